/- ExprSame, walked. -/
import Derived.Test.YtdhlbhkpleoicaaExSameZ
namespace Go.Proofs.Ytdhlbhkpleoicaa.Exp
open Go.RowKit Go.Proofs.YtdhlbhkpleoicaaW.PrintWords Go.Proofs.YtdhlbhkpleoicaaW.PrintLast Go.Proofs.YtdhlbhkpleoicaaW.PrintMore Go.Proofs.Ytdhlbhkpleoicaa.PExprSame
open Frm
set_option linter.unusedVariables false
set_option linter.unusedSimpArgs false
/-- Four cells of a node. -/
theorem cells4 {w : World} {b : Nat} {k n : Int} {s : ByteArray} {v : Value} (h : w.heap[b]? = some (.cells #[.int .i64 k, .int .i64 n, .string s, v] 24 (0, 0))) :
    w.cell? ⟨b, 0, none⟩ = some (.int .i64 k) ∧ w.cell? ⟨b, 1, none⟩ = some (.int .i64 n) ∧ w.cell? ⟨b, 2, none⟩ = some (.string s) ∧ w.cell? ⟨b, 3, none⟩ = some v :=
  ⟨(blk_cell h 0).trans rfl, (blk_cell h 1).trans rfl, (blk_cell h 2).trans rfl, (blk_cell h 3).trans rfl⟩
theorem cell1 {w : World} {b t : Nat} {v : Value} (h : w.heap[b]? = some (.cells #[v] t (0, 0))) : w.cell? ⟨b, 0, none⟩ = some v := (blk_cell h 0).trans rfl
theorem cells3 {w : World} {b t : Nat} {u v x : Value} (h : w.heap[b]? = some (.cells #[u, v, x] t (0, 0))) : w.cell? ⟨b, 0, none⟩ = some u ∧ w.cell? ⟨b, 1, none⟩ = some v ∧ w.cell? ⟨b, 2, none⟩ = some x :=
  ⟨(blk_cell h 0).trans rfl, (blk_cell h 1).trans rfl, (blk_cell h 2).trans rfl⟩
theorem keep8 {W w' : World} {b b' : Nat} {k n k' n' : Int} {s s' : ByteArray} {v v' : Value} (h : W.heap[b]? = some (.cells #[.int .i64 k, .int .i64 n, .string s, v] 24 (0, 0))) (h' : W.heap[b']? = some (.cells #[.int .i64 k', .int .i64 n', .string s', v'] 24 (0, 0))) (hb : Below W.heap.size W w') :
    w'.cell? ⟨b, 0, none⟩ = some (.int .i64 k) ∧ w'.cell? ⟨b, 1, none⟩ = some (.int .i64 n) ∧ w'.cell? ⟨b, 2, none⟩ = some (.string s) ∧ w'.cell? ⟨b, 3, none⟩ = some v ∧ w'.cell? ⟨b', 0, none⟩ = some (.int .i64 k') ∧ w'.cell? ⟨b', 1, none⟩ = some (.int .i64 n') ∧ w'.cell? ⟨b', 2, none⟩ = some (.string s') ∧ w'.cell? ⟨b', 3, none⟩ = some v' := by
  obtain ⟨x0, x1, x2, x3⟩ := cells4 (blk_below h hb)
  obtain ⟨y0, y1, y2, y3⟩ := cells4 (blk_below h' hb)
  exact ⟨x0, x1, x2, x3, y0, y1, y2, y3⟩
set_option maxHeartbeats 8000000 in
set_option maxRecDepth 100000 in
theorem same_law_calls (x y : S24) (A1 A2 : Option Addr) (c1 c2 : Nat) (w : World) (hC1 : Kd.C k24 w A1 x.f3.length x.f3) (hc1 : x.f3.length ≤ c1) (hC2 : Kd.C k24 w A2 y.f3.length y.f3) (hc2 : y.f3.length ≤ c2) :
    Calls Try.prog 5 #[.agg #[.int .i64 x.f0, .int .i64 x.f1, .string x.f2, .slice A1 x.f3.length c1], .agg #[.int .i64 y.f0, .int .i64 y.f1, .string y.f2, .slice A2 y.f3.length c2]] w fun e w' => e = .returned (.bool true) ∧ Below w.heap.size w w' := by
  obtain ⟨s1, hs1⟩ := Small_calls x (okN_C 200 x w A1 hC1)
  obtain ⟨s2, hs2⟩ := Small_calls y (okN_C 200 y w A2 hC2)
  have hS1 := Aside0.mk (fun W (hb : Below w.heap.size w W) => hs1 A1 c1 W (Kd.C_below hC1 hb) hc1)
  have hS2 := Aside0.mk (fun W (hb : Below w.heap.size w W) => hs2 A2 c2 W (Kd.C_below hC2 hb) hc2)
  have hT1 := Aside0.mk (fun W (hb : Below w.heap.size w W) => Theirs_calls x A1 c1 W (Kd.C_below hC1 hb) hc1)
  have hT2 := Aside0.mk (fun W (hb : Below w.heap.size w W) => Theirs_calls y A2 c2 W (Kd.C_below hC2 hb) hc2)
  have hK1 := Aside0.mk (fun W (hb : Below w.heap.size w W) => Clean_calls x A1 c1 W (Kd.C_below hC1 hb) hc1)
  have hK2 := Aside0.mk (fun W (hb : Below w.heap.size w W) => Clean_calls y A2 c2 W (Kd.C_below hC2 hb) hc2)
  obtain ⟨X, hX⟩ : ∃ X, theirs x = X := ⟨_, rfl⟩
  obtain ⟨Y, hY⟩ : ∃ Y, theirs y = Y := ⟨_, rfl⟩
  rw [hX] at hT1 hK1
  rw [hY] at hT2 hK2
  have hM := Aside0.mk (fun w => Same_calls _ X Y (Nat.lt_succ_self _) w)
  have hM2 := Aside0.mk (fun w => Same_calls _ X X (Nat.lt_succ_self _) w)
  have hR := Aside0.mk (fun A B c d w hA hc hB hd => rSame_calls X Y A B c d w hA hc hB hd)
  obtain ⟨r, hr⟩ : ∃ r, sameE X Y = r := ⟨_, rfl⟩
  rw [hr] at hM hR
  rw [sameE_refl X] at hM2
  obtain ⟨NX, hNX⟩ : ∃ N, toN X = N := ⟨_, rfl⟩
  obtain ⟨NY, hNY⟩ : ∃ N, toN Y = N := ⟨_, rfl⟩
  rw [hNX] at hK1 hR
  rw [hNY] at hK2 hR
  obtain ⟨k1, n1, t1, l1⟩ := x
  obtain ⟨k2, n2, t2, l2⟩ := y
  simp only [] at hS1 hS2 hT1 hT2 hK1 hK2 ⊢
  clear hs1 hs2 hC1 hC2 hc1 hc2 hX hY hr hNX hNY
  have hAw := Aside0.mk (fun w => awake_calls w)
  go_enter Try.func5, Try.ntmps5
  go_upto_region 1 with fail
  refine wp_world (fun W hW => ?_)
  have hB1 : W.heap[w.heap.size]? = some (.cells #[.int .i64 k1, .int .i64 n1, .string t1, .slice A1 l1.length c1] 24 (0, 0)) := by rw [hW]; exact blk_below (w := w.alloc _) (blk_new _ _) (below_alloc (Below.refl _ _) _)
  have hB2 : W.heap[w.heap.size + 1]? = some (.cells #[.int .i64 k2, .int .i64 n2, .string t2, .slice A2 l2.length c2] 24 (0, 0)) := by rw [hW]; exact blk_new_at (by simp)
  have hBW : Aside0 (Below w.heap.size w W) := ⟨by rw [hW]; exact below_alloc (below_alloc (Below.refl _ _) _) _⟩
  obtain ⟨b1, hb1⟩ : ∃ b, w.heap.size = b := ⟨_, rfl⟩
  rw [hb1] at hB1 hB2
  rw [hb1]
  obtain ⟨b2, hb2⟩ : ∃ b, b1 + 1 = b := ⟨_, rfl⟩
  rw [hb2] at hB2
  rw [hb2]
  have hB1' := Aside0.mk hB1
  have hB2' := Aside0.mk hB2
  clear hW hB1 hB2
  cases s1 with
  | false =>
    go_upto_region 2 with (first
      | (go_at_call 6; (with_reducible refine (hAw.out _).mono ?_); rintro e w1 ⟨rfl, hq1⟩; have hX1 := Aside0.mk hq1; clear hq1; obtain ⟨x0, x1, x2, x3⟩ := cells4 (blk_below hB1'.out hX1.out))
      | (go_at_call 7; (with_reducible refine (hS1.out _ (below_step hBW.out hX1.out)).mono ?_); rintro e w2 ⟨rfl, hq2⟩; have hX2 : Aside0 (Below W.heap.size W w2) := ⟨below_step hX1.out hq2⟩; clear hq2; obtain ⟨y0, y1, y2, y3⟩ := cells4 (blk_below hB2'.out hX2.out))
      | (go_at_call 7; (with_reducible refine (hS2.out _ (below_step hBW.out hX2.out)).mono ?_); rintro e w3 ⟨rfl, hq3⟩; have hX3 : Aside0 (Below W.heap.size W w3) := ⟨below_step hX2.out hq3⟩; clear hq3)
      | fail)
    go_wp2_with (first | (go_at_call 6; (with_reducible refine (hAw.out _).mono ?_); rintro e w9 ⟨rfl, hq9⟩; have hX9 := Aside0.mk hq9; clear hq9) | fail)
    go_ret
    exact ⟨rfl, below_step hBW.out (below_step hX2.out hX9.out)⟩
  | true =>
    cases s2 with
    | false =>
      go_upto_region 2 with (first
        | (go_at_call 6; (with_reducible refine (hAw.out _).mono ?_); rintro e w1 ⟨rfl, hq1⟩; have hX1 := Aside0.mk hq1; clear hq1; obtain ⟨x0, x1, x2, x3⟩ := cells4 (blk_below hB1'.out hX1.out))
        | (go_at_call 7; (with_reducible refine (hS1.out _ (below_step hBW.out hX1.out)).mono ?_); rintro e w2 ⟨rfl, hq2⟩; have hX2 : Aside0 (Below W.heap.size W w2) := ⟨below_step hX1.out hq2⟩; clear hq2; obtain ⟨y0, y1, y2, y3⟩ := cells4 (blk_below hB2'.out hX2.out))
        | (go_at_call 7; (with_reducible refine (hS2.out _ (below_step hBW.out hX2.out)).mono ?_); rintro e w3 ⟨rfl, hq3⟩; have hX3 : Aside0 (Below W.heap.size W w3) := ⟨below_step hX2.out hq3⟩; clear hq3)
        | fail)
      go_wp2_with (first | (go_at_call 6; (with_reducible refine (hAw.out _).mono ?_); rintro e w9 ⟨rfl, hq9⟩; have hX9 := Aside0.mk hq9; clear hq9) | fail)
      go_ret
      exact ⟨rfl, below_step hBW.out (below_step hX3.out hX9.out)⟩
    | true =>
      go_upto_region 3 with (first
        | (go_at_call 6; (with_reducible refine (hAw.out _).mono ?_); rintro e w1 ⟨rfl, hq1⟩; have hX1 := Aside0.mk hq1; clear hq1; obtain ⟨x0, x1, x2, x3⟩ := cells4 (blk_below hB1'.out hX1.out))
        | (go_at_call 7; (with_reducible refine (hS1.out _ (below_step hBW.out hX1.out)).mono ?_); rintro e w2 ⟨rfl, hq2⟩; have hX2 : Aside0 (Below W.heap.size W w2) := ⟨below_step hX1.out hq2⟩; clear hq2; obtain ⟨y0, y1, y2, y3⟩ := cells4 (blk_below hB2'.out hX2.out))
        | (go_at_call 7; (with_reducible refine (hS2.out _ (below_step hBW.out hX2.out)).mono ?_); rintro e w3 ⟨rfl, hq3⟩; have hX3 : Aside0 (Below W.heap.size W w3) := ⟨below_step hX2.out hq3⟩; clear hq3)
        | fail)
      clear x0 x1 x2 x3 y0 y1 y2 y3
      have hE1 : w3.heap[b1]? = some (.cells #[.int .i64 k1, .int .i64 n1, .string t1, .slice A1 l1.length c1] 24 (0, 0)) := blk_below hB1'.out hX3.out
      have hE2 : w3.heap[b2]? = some (.cells #[.int .i64 k2, .int .i64 n2, .string t2, .slice A2 l2.length c2] 24 (0, 0)) := blk_below hB2'.out hX3.out
      obtain ⟨x0, x1, x2, x3⟩ := cells4 hE1
      obtain ⟨y0, y1, y2, y3⟩ := cells4 hE2
      have hE1' := Aside0.mk hE1
      have hE2' := Aside0.mk hE2
      have hBW3 := Aside0.mk (below_step hBW.out hX3.out)
      obtain ⟨vX, hvX⟩ : ∃ v, enc X = v := ⟨_, rfl⟩
      obtain ⟨vY, hvY⟩ : ∃ v, enc Y = v := ⟨_, rfl⟩
      have hf1 : vX = .nilIface ∨ ∃ t u, vX = .iface t u := hvX ▸ enc_form X
      have hf2 : vY = .nilIface ∨ ∃ t u, vY = .iface t u := hvY ▸ enc_form Y
      rw [hvX] at hT1 hM hM2
      rw [hvY] at hT2 hM
      have hvX' := Aside0.mk hvX
      have hvY' := Aside0.mk hvY
      clear hE1 hE2 hX1 hX2 hvX hvY
      cases r <;> rcases hf1 with rfl | ⟨p1, q1, rfl⟩ <;> rcases hf2 with rfl | ⟨p2, q2, rfl⟩
      all_goals
        go_region_held3 (fun w' => w'.cell? ⟨b1, 0, none⟩ = some (.int .i64 k1) ∧ w'.cell? ⟨b1, 1, none⟩ = some (.int .i64 n1) ∧ w'.cell? ⟨b1, 2, none⟩ = some (.string t1) ∧ w'.cell? ⟨b1, 3, none⟩ = some (.slice A1 l1.length c1) ∧ w'.cell? ⟨b2, 0, none⟩ = some (.int .i64 k2) ∧ w'.cell? ⟨b2, 1, none⟩ = some (.int .i64 n2) ∧ w'.cell? ⟨b2, 2, none⟩ = some (.string t2) ∧ w'.cell? ⟨b2, 3, none⟩ = some (.slice A2 l2.length c2))
          (refine keep8 (W := w3) hE1'.out hE2'.out (by repeat (first | (with_reducible exact Below.refl _ _) | (with_reducible exact hX5.out) | (with_reducible exact hX6.out) | (with_reducible exact hX7.out) | (with_reducible exact hX8.out) | (with_reducible exact hX9.out) | (with_reducible exact hX10.out) | (with_reducible exact hX11.out) | (with_reducible exact hX12.out) | (with_reducible exact hX13.out) | (with_reducible refine below_drew ?_))))
          (first
            | (go_at_call 9; (with_reducible refine (hT1.out _ (below_drew hBW3.out)).mono ?_); rintro e w5 ⟨rfl, hq5⟩; have hX5 : Aside0 (Below w3.heap.size w3 w5) := ⟨(below_drew (Below.refl _ _)).trans hq5⟩; clear hq5)
            | (go_at_call 9; (with_reducible refine (hT2.out _ (below_step hBW3.out hX5.out)).mono ?_); rintro e w6 ⟨rfl, hq6⟩; have hX6 : Aside0 (Below w3.heap.size w3 w6) := ⟨below_step hX5.out hq6⟩; clear hq6)
            | (go_at_call 13; have hX12' := hX12.out; (with_reducible refine (hM2.out _).mono ?_); rintro e w13 ⟨rfl, hq13⟩; have hX13 : Aside0 (Below w3.heap.size w3 w13) := ⟨below_step hX12' hq13⟩; clear hq13 hX12')
            | (go_at_call 13; have hX6' := hX6.out; (with_reducible refine (hM.out _).mono ?_); rintro e w7 ⟨rfl, hq7⟩; have hX7 : Aside0 (Below w3.heap.size w3 w7) := ⟨below_step hX6' hq7⟩; clear hq7 hX6')
            | (go_at_call 15; (with_reducible refine (hK1.out _ (below_step hBW3.out hX7.out)).mono ?_); rintro e w8 ⟨A8, c8, rfl, hC8, hc8, hq8⟩; have hX8 : Aside0 (Below w3.heap.size w3 w8) := ⟨below_step hX7.out hq8⟩; have hC8' := Aside0.mk hC8; have hc8' := Aside0.mk hc8; clear hq8 hC8 hc8)
            | (go_at_call 15; (with_reducible refine (hK2.out _ (below_step hBW3.out hX8.out)).mono ?_); rintro e w9 ⟨A9, c9, rfl, hC9, hc9, hq9⟩; have hX9 : Aside0 (Below w3.heap.size w3 w9) := ⟨below_step hX8.out hq9⟩; have hC9' := Aside0.mk hC9; have hc9' := Aside0.mk hc9; have hC8b := Aside0.mk (Kd.C_below hC8'.out hq9); clear hq9 hC9 hc9)
            | (go_at_call 14; (with_reducible refine (hR.out A8 A9 c8 c9 _ hC8b.out hc8'.out hC9'.out hc9'.out).mono ?_); rintro e w10 ⟨rfl, hq10⟩; have hX10 : Aside0 (Below w3.heap.size w3 w10) := ⟨below_step hX9.out hq10⟩; clear hq10)
            | (go_at_call 9; (with_reducible refine (hT1.out _ (below_step hBW3.out hX10.out)).mono ?_); rintro e w11 ⟨rfl, hq11⟩; have hX11 : Aside0 (Below w3.heap.size w3 w11) := ⟨below_step hX10.out hq11⟩; clear hq11)
            | (go_at_call 9; (with_reducible refine (hT1.out _ (below_step hBW3.out hX11.out)).mono ?_); rintro e w12 ⟨rfl, hq12⟩; have hX12 : Aside0 (Below w3.heap.size w3 w12) := ⟨below_step hX11.out hq12⟩; clear hq12)
            | fail)
        go_wp2_with fail
        go_ret
        exact ⟨rfl, below_step hBW3.out hX13.out⟩
end Go.Proofs.Ytdhlbhkpleoicaa.Exp
