/- ExprLogic, walked. -/
import Derived.Test.YtdhlbhkpleoicaaExSmall
namespace Go.Proofs.Ytdhlbhkpleoicaa.Exp
open Go.RowKit Go.Proofs.YtdhlbhkpleoicaaW.PrintWords Go.Proofs.YtdhlbhkpleoicaaW.PrintLast Go.Proofs.YtdhlbhkpleoicaaW.PrintMore Go.Proofs.Ytdhlbhkpleoicaa.PExprSame
open Frm
set_option linter.unusedVariables false
set_option linter.unusedSimpArgs false
def andE (x y : Ex) : Ex := .bin sAnd x y
def orE (x y : Ex) : Ex := .not (.bin sOr (.not x) (.not y))
theorem arith_and (x y : Int) : arith sAnd x y = (tru (y != 0), 0) := by
  unfold arith
  rw [if_neg (by decide), if_neg (by decide), if_neg (by decide), if_neg (by decide), if_neg (by decide), if_neg (by decide), if_neg (by decide)]
theorem arith_or (x y : Int) : arith sOr x y = (tru (y != 0), 0) := by
  unfold arith
  rw [if_neg (by decide), if_neg (by decide), if_neg (by decide), if_neg (by decide), if_neg (by decide), if_neg (by decide), if_neg (by decide)]
theorem logic (vs : List S50) (x y : Ex) (h1 : fmd (andE x y) = true) (h2 : fmd (orE x y) = true) : evl vs (andE x y) = evl vs (orE x y) := by
  unfold evl
  rw [if_pos h1, if_pos h2]
  unfold andE orE
  simp only [ev]
  obtain ⟨⟨a, e⟩, hx⟩ : ∃ p, ev vs x = p := ⟨_, rfl⟩
  obtain ⟨⟨b, f⟩, hy⟩ : ∃ p, ev vs y = p := ⟨_, rfl⟩
  simp only [hx, hy]
  have n1 : ¬ (sAnd = sOr) := by decide
  have n2 : ¬ (sOr = sAnd) := by decide
  simp only [arith_and, arith_or, n1, n2, true_and, false_and, or_false, false_or]
  by_cases he : e = 0
  · subst he
    by_cases ha : a = 0
    · subst ha
      simp [tru]
    · by_cases hf : f = 0
      · subst hf
        by_cases hb : b = 0
        · subst hb
          simp [tru, ha]
        · simp [tru, ha, hb]
      · simp [tru, ha, hf]
  · simp [he]
/-- Four cells of a node. -/
theorem cells4 {w : World} {b : Nat} {k n : Int} {s : ByteArray} {v : Value} (h : w.heap[b]? = some (.cells #[.int .i64 k, .int .i64 n, .string s, v] 24 (0, 0))) :
    w.cell? ⟨b, 0, none⟩ = some (.int .i64 k) ∧ w.cell? ⟨b, 1, none⟩ = some (.int .i64 n) ∧ w.cell? ⟨b, 2, none⟩ = some (.string s) ∧ w.cell? ⟨b, 3, none⟩ = some v :=
  ⟨(blk_cell h 0).trans rfl, (blk_cell h 1).trans rfl, (blk_cell h 2).trans rfl, (blk_cell h 3).trans rfl⟩
theorem cell1 {w : World} {b t : Nat} {v : Value} (h : w.heap[b]? = some (.cells #[v] t (0, 0))) : w.cell? ⟨b, 0, none⟩ = some v := (blk_cell h 0).trans rfl
theorem cells3 {w : World} {b t : Nat} {u v x : Value} (h : w.heap[b]? = some (.cells #[u, v, x] t (0, 0))) : w.cell? ⟨b, 0, none⟩ = some u ∧ w.cell? ⟨b, 1, none⟩ = some v ∧ w.cell? ⟨b, 2, none⟩ = some x :=
  ⟨(blk_cell h 0).trans rfl, (blk_cell h 1).trans rfl, (blk_cell h 2).trans rfl⟩
theorem keep8 {W w' : World} {b b' : Nat} {k n k' n' : Int} {s s' : ByteArray} {v v' : Value} (h : W.heap[b]? = some (.cells #[.int .i64 k, .int .i64 n, .string s, v] 24 (0, 0))) (h' : W.heap[b']? = some (.cells #[.int .i64 k', .int .i64 n', .string s', v'] 24 (0, 0))) (hb : Below W.heap.size W w') :
    w'.cell? ⟨b, 0, none⟩ = some (.int .i64 k) ∧ w'.cell? ⟨b, 1, none⟩ = some (.int .i64 n) ∧ w'.cell? ⟨b, 2, none⟩ = some (.string s) ∧ w'.cell? ⟨b, 3, none⟩ = some v ∧ w'.cell? ⟨b', 0, none⟩ = some (.int .i64 k') ∧ w'.cell? ⟨b', 1, none⟩ = some (.int .i64 n') ∧ w'.cell? ⟨b', 2, none⟩ = some (.string s') ∧ w'.cell? ⟨b', 3, none⟩ = some v' := by
  obtain ⟨x0, x1, x2, x3⟩ := cells4 (blk_below h hb)
  obtain ⟨y0, y1, y2, y3⟩ := cells4 (blk_below h' hb)
  exact ⟨x0, x1, x2, x3, y0, y1, y2, y3⟩
set_option maxHeartbeats 8000000 in
set_option maxRecDepth 100000 in
theorem logic_calls (x y : S24) (vs : List S50) (A1 A2 A3 : Option Addr) (c1 c2 c3 : Nat) (w : World) (hC1 : Kd.C k24 w A1 x.f3.length x.f3) (hc1 : x.f3.length ≤ c1) (hC2 : Kd.C k24 w A2 y.f3.length y.f3) (hc2 : y.f3.length ≤ c2) (hC3 : Kd.C k50 w A3 vs.length vs) (hc3 : vs.length ≤ c3) (hvl : vs.length ≤ 140737488351232) :
    Calls Try.prog 3 #[.agg #[.int .i64 x.f0, .int .i64 x.f1, .string x.f2, .slice A1 x.f3.length c1], .agg #[.int .i64 y.f0, .int .i64 y.f1, .string y.f2, .slice A2 y.f3.length c2], .slice A3 vs.length c3] w fun e w' => e = .returned (.bool true) ∧ Below w.heap.size w w' := by
  obtain ⟨s1, hs1⟩ := Small_calls x (okN_C 200 x w A1 hC1)
  obtain ⟨s2, hs2⟩ := Small_calls y (okN_C 200 y w A2 hC2)
  have hS1 := Aside0.mk (fun W (hb : Below w.heap.size w W) => hs1 A1 c1 W (Kd.C_below hC1 hb) hc1)
  have hS2 := Aside0.mk (fun W (hb : Below w.heap.size w W) => hs2 A2 c2 W (Kd.C_below hC2 hb) hc2)
  have hT1 := Aside0.mk (fun W (hb : Below w.heap.size w W) => Theirs_calls x A1 c1 W (Kd.C_below hC1 hb) hc1)
  have hT2 := Aside0.mk (fun W (hb : Below w.heap.size w W) => Theirs_calls y A2 c2 W (Kd.C_below hC2 hb) hc2)
  have hF := Aside0.mk (fun W (hb : Below w.heap.size w W) => few_calls vs A3 c3 W (Kd.C_below hC3 hb))
  have hE := Aside0.mk (fun X W (hb : Below w.heap.size w W) => Eval_calls X vs hvl A3 c3 W (Kd.C_below hC3 hb) hc3)
  obtain ⟨fb, hfb⟩ : ∃ b, fewL vs 0 = b := ⟨_, rfl⟩
  rw [hfb] at hF
  obtain ⟨X, hX⟩ : ∃ X, theirs x = X := ⟨_, rfl⟩
  obtain ⟨Y, hY⟩ : ∃ Y, theirs y = Y := ⟨_, rfl⟩
  rw [hX] at hT1
  rw [hY] at hT2
  obtain ⟨k1, n1, t1, l1⟩ := x
  obtain ⟨k2, n2, t2, l2⟩ := y
  simp only [] at hS1 hS2 hT1 hT2 ⊢
  clear hs1 hs2 hC1 hC2 hC3 hc1 hc2 hc3 hfb hX hY hvl
  have hAw := Aside0.mk (fun w => awake_calls w)
  go_enter Try.func3, Try.ntmps3
  go_upto_region 1 with fail
  refine wp_world (fun W hW => ?_)
  have hB1 : W.heap[w.heap.size]? = some (.cells #[.int .i64 k1, .int .i64 n1, .string t1, .slice A1 l1.length c1] 24 (0, 0)) := by rw [hW]; exact blk_below (w := w.alloc _) (blk_new _ _) (below_alloc (Below.refl _ _) _)
  have hB2 : W.heap[w.heap.size + 1]? = some (.cells #[.int .i64 k2, .int .i64 n2, .string t2, .slice A2 l2.length c2] 24 (0, 0)) := by rw [hW]; exact blk_new_at (by simp)
  have hBW : Aside0 (Below w.heap.size w W) := ⟨by rw [hW]; exact below_alloc (below_alloc (Below.refl _ _) _) _⟩
  obtain ⟨b1, hb1⟩ : ∃ b, w.heap.size = b := ⟨_, rfl⟩
  rw [hb1] at hB1 hB2
  rw [hb1]
  obtain ⟨b2, hb2⟩ : ∃ b, b1 + 1 = b := ⟨_, rfl⟩
  rw [hb2] at hB2
  rw [hb2]
  have hB1' := Aside0.mk hB1
  have hB2' := Aside0.mk hB2
  clear hW hB1 hB2
  cases s1 with
  | false =>
    go_upto_region 2 with (first
      | (go_at_call 6; (with_reducible refine (hAw.out _).mono ?_); rintro e w1 ⟨rfl, hq1⟩; have hX1 := Aside0.mk hq1; clear hq1; obtain ⟨x0, x1, x2, x3⟩ := cells4 (blk_below hB1'.out hX1.out))
      | (go_at_call 7; (with_reducible refine (hS1.out _ (below_step hBW.out hX1.out)).mono ?_); rintro e w2 ⟨rfl, hq2⟩; have hX2 : Aside0 (Below W.heap.size W w2) := ⟨below_step hX1.out hq2⟩; clear hq2; obtain ⟨y0, y1, y2, y3⟩ := cells4 (blk_below hB2'.out hX2.out))
      | (go_at_call 7; (with_reducible refine (hS2.out _ (below_step hBW.out hX2.out)).mono ?_); rintro e w3 ⟨rfl, hq3⟩; have hX3 : Aside0 (Below W.heap.size W w3) := ⟨below_step hX2.out hq3⟩; clear hq3)
      | (go_at_call 8; (with_reducible refine (hF.out _ (below_step hBW.out hX3.out)).mono ?_); rintro e w4 ⟨rfl, ⟨m4, hm4⟩⟩; have hX4 : Aside0 (Below W.heap.size W w4) := ⟨by rw [hm4]; exact pw_below_drewN hX3.out _⟩; clear hm4)
      | fail)
    go_wp2_with (first | (go_at_call 6; (with_reducible refine (hAw.out _).mono ?_); rintro e w9 ⟨rfl, hq9⟩; have hX9 := Aside0.mk hq9; clear hq9) | fail)
    go_ret
    exact ⟨rfl, below_step hBW.out (below_step hX2.out hX9.out)⟩
  | true =>
    cases s2 with
    | false =>
      go_upto_region 2 with (first
        | (go_at_call 6; (with_reducible refine (hAw.out _).mono ?_); rintro e w1 ⟨rfl, hq1⟩; have hX1 := Aside0.mk hq1; clear hq1; obtain ⟨x0, x1, x2, x3⟩ := cells4 (blk_below hB1'.out hX1.out))
        | (go_at_call 7; (with_reducible refine (hS1.out _ (below_step hBW.out hX1.out)).mono ?_); rintro e w2 ⟨rfl, hq2⟩; have hX2 : Aside0 (Below W.heap.size W w2) := ⟨below_step hX1.out hq2⟩; clear hq2; obtain ⟨y0, y1, y2, y3⟩ := cells4 (blk_below hB2'.out hX2.out))
        | (go_at_call 7; (with_reducible refine (hS2.out _ (below_step hBW.out hX2.out)).mono ?_); rintro e w3 ⟨rfl, hq3⟩; have hX3 : Aside0 (Below W.heap.size W w3) := ⟨below_step hX2.out hq3⟩; clear hq3)
        | (go_at_call 8; (with_reducible refine (hF.out _ (below_step hBW.out hX3.out)).mono ?_); rintro e w4 ⟨rfl, ⟨m4, hm4⟩⟩; have hX4 : Aside0 (Below W.heap.size W w4) := ⟨by rw [hm4]; exact pw_below_drewN hX3.out _⟩; clear hm4)
        | fail)
      go_wp2_with (first | (go_at_call 6; (with_reducible refine (hAw.out _).mono ?_); rintro e w9 ⟨rfl, hq9⟩; have hX9 := Aside0.mk hq9; clear hq9) | fail)
      go_ret
      exact ⟨rfl, below_step hBW.out (below_step hX3.out hX9.out)⟩
    | true =>
      cases fb with
      | false =>
        go_upto_region 2 with (first
          | (go_at_call 6; (with_reducible refine (hAw.out _).mono ?_); rintro e w1 ⟨rfl, hq1⟩; have hX1 := Aside0.mk hq1; clear hq1; obtain ⟨x0, x1, x2, x3⟩ := cells4 (blk_below hB1'.out hX1.out))
          | (go_at_call 7; (with_reducible refine (hS1.out _ (below_step hBW.out hX1.out)).mono ?_); rintro e w2 ⟨rfl, hq2⟩; have hX2 : Aside0 (Below W.heap.size W w2) := ⟨below_step hX1.out hq2⟩; clear hq2; obtain ⟨y0, y1, y2, y3⟩ := cells4 (blk_below hB2'.out hX2.out))
          | (go_at_call 7; (with_reducible refine (hS2.out _ (below_step hBW.out hX2.out)).mono ?_); rintro e w3 ⟨rfl, hq3⟩; have hX3 : Aside0 (Below W.heap.size W w3) := ⟨below_step hX2.out hq3⟩; clear hq3)
          | (go_at_call 8; (with_reducible refine (hF.out _ (below_step hBW.out hX3.out)).mono ?_); rintro e w4 ⟨rfl, ⟨m4, hm4⟩⟩; have hX4 : Aside0 (Below W.heap.size W w4) := ⟨by rw [hm4]; exact pw_below_drewN hX3.out _⟩; clear hm4)
          | fail)
        go_wp2_with (first | (go_at_call 6; (with_reducible refine (hAw.out _).mono ?_); rintro e w9 ⟨rfl, hq9⟩; have hX9 := Aside0.mk hq9; clear hq9) | fail)
        go_ret
        exact ⟨rfl, below_step hBW.out (below_step hX4.out hX9.out)⟩
      | true =>
        go_upto_region 3 with (first
          | (go_at_call 6; (with_reducible refine (hAw.out _).mono ?_); rintro e w1 ⟨rfl, hq1⟩; have hX1 := Aside0.mk hq1; clear hq1; obtain ⟨x0, x1, x2, x3⟩ := cells4 (blk_below hB1'.out hX1.out))
          | (go_at_call 7; (with_reducible refine (hS1.out _ (below_step hBW.out hX1.out)).mono ?_); rintro e w2 ⟨rfl, hq2⟩; have hX2 : Aside0 (Below W.heap.size W w2) := ⟨below_step hX1.out hq2⟩; clear hq2; obtain ⟨y0, y1, y2, y3⟩ := cells4 (blk_below hB2'.out hX2.out))
          | (go_at_call 7; (with_reducible refine (hS2.out _ (below_step hBW.out hX2.out)).mono ?_); rintro e w3 ⟨rfl, hq3⟩; have hX3 : Aside0 (Below W.heap.size W w3) := ⟨below_step hX2.out hq3⟩; clear hq3)
          | (go_at_call 8; (with_reducible refine (hF.out _ (below_step hBW.out hX3.out)).mono ?_); rintro e w4 ⟨rfl, ⟨m4, hm4⟩⟩; have hX4 : Aside0 (Below W.heap.size W w4) := ⟨by rw [hm4]; exact pw_below_drewN hX3.out _⟩; clear hm4)
          | fail)
        have hX4' := hX4
        clear x0 x1 x2 x3 y0 y1 y2 y3
        have hE1 : w4.heap[b1]? = some (.cells #[.int .i64 k1, .int .i64 n1, .string t1, .slice A1 l1.length c1] 24 (0, 0)) := blk_below hB1'.out hX4.out
        have hE2 : w4.heap[b2]? = some (.cells #[.int .i64 k2, .int .i64 n2, .string t2, .slice A2 l2.length c2] 24 (0, 0)) := blk_below hB2'.out hX4.out
        obtain ⟨x0, x1, x2, x3⟩ := cells4 hE1
        obtain ⟨y0, y1, y2, y3⟩ := cells4 hE2
        have hE1' := Aside0.mk hE1
        have hE2' := Aside0.mk hE2
        have hBW4 := Aside0.mk (below_step hBW.out hX4.out)
        obtain ⟨vX, hvX⟩ : ∃ v, enc X = v := ⟨_, rfl⟩
        obtain ⟨vY, hvY⟩ : ∃ v, enc Y = v := ⟨_, rfl⟩
        have hf1 : vX = .nilIface ∨ ∃ t u, vX = .iface t u := hvX ▸ enc_form X
        have hf2 : vY = .nilIface ∨ ∃ t u, vY = .iface t u := hvY ▸ enc_form Y
        rw [hvX] at hT1
        rw [hvY] at hT2
        have hvX' := Aside0.mk hvX
        have hvY' := Aside0.mk hvY
        clear hE1 hE2 hX1 hX2 hX3 hvX hvY
        rcases hf1 with rfl | ⟨p1, q1, rfl⟩ <;> rcases hf2 with rfl | ⟨p2, q2, rfl⟩
        · go_region_held3 (fun w' => w'.cell? ⟨b1, 0, none⟩ = some (.int .i64 k1) ∧ w'.cell? ⟨b1, 1, none⟩ = some (.int .i64 n1) ∧ w'.cell? ⟨b1, 2, none⟩ = some (.string t1) ∧ w'.cell? ⟨b1, 3, none⟩ = some (.slice A1 l1.length c1) ∧ w'.cell? ⟨b2, 0, none⟩ = some (.int .i64 k2) ∧ w'.cell? ⟨b2, 1, none⟩ = some (.int .i64 n2) ∧ w'.cell? ⟨b2, 2, none⟩ = some (.string t2) ∧ w'.cell? ⟨b2, 3, none⟩ = some (.slice A2 l2.length c2))
            (refine keep8 (W := w4) hE1'.out hE2'.out (by repeat (first | (with_reducible exact Below.refl _ _) | (with_reducible exact hX5.out) | (with_reducible exact hX6.out) | (with_reducible refine below_drew ?_))))
            (first
              | (go_at_call 9; (with_reducible refine (hT1.out _ (below_drew hBW4.out)).mono ?_); rintro e w5 ⟨rfl, hq5⟩; have hX5 : Aside0 (Below w4.heap.size w4 w5) := ⟨(below_drew (Below.refl _ _)).trans hq5⟩; clear hq5)
              | (go_at_call 9; (with_reducible refine (hT2.out _ (below_step hBW4.out hX5.out)).mono ?_); rintro e w6 ⟨rfl, hq6⟩; have hX6 : Aside0 (Below w4.heap.size w4 w6) := ⟨below_step hX5.out hq6⟩; clear hq6)
              | fail)
          have hBW6 := Aside0.mk (below_step hBW4.out hX6.out)
          go_upto_region 6 with fail
          refine wp_world (fun W7 hW7 => ?_)
          have hb7 : Below w6.heap.size w6 W7 := by rw [hW7]; exact below_alloc (below_alloc (Below.refl _ _) _) _
          have hG1 : W7.heap[w6.heap.size]? = some (.cells #[.string ⟨#[38, 38]⟩, .nilIface, .nilIface] 33 (0, 0)) := by rw [hW7]; exact blk_below (w := w6.alloc _) (blk_new _ _) (below_alloc (Below.refl _ _) _)
          have hG2 : W7.heap[w6.heap.size + 1]? = some (.cells #[.iface 33 (.agg #[.string ⟨#[124, 124]⟩, .iface 35 (.agg #[.nilIface]), .iface 35 (.agg #[.nilIface])])] 35 (0, 0)) := by rw [hW7]; exact blk_new_at (by simp)
          have hBW7 := Aside0.mk (below_step hBW6.out hb7)
          obtain ⟨g1, hg1⟩ : ∃ g, w6.heap.size = g := ⟨_, rfl⟩
          rw [hg1] at hG1 hG2
          rw [hg1]
          obtain ⟨g2, hg2⟩ : ∃ g, g1 + 1 = g := ⟨_, rfl⟩
          rw [hg2] at hG2
          rw [hg2]
          clear hW7 hb7 hg1 hg2
          have eA : enc (andE X Y) = .iface 33 (.agg #[.string ⟨#[38, 38]⟩, .nilIface, .nilIface]) := by (show Value.iface 33 (.agg #[.string sAnd, enc X, enc Y]) = _); rw [hvX'.out, hvY'.out]; rfl
          have eO : enc (orE X Y) = .iface 35 (.agg #[.iface 33 (.agg #[.string ⟨#[124, 124]⟩, .iface 35 (.agg #[.nilIface]), .iface 35 (.agg #[.nilIface])])]) := by (show Value.iface 35 (.agg #[.iface 33 (.agg #[.string sOr, .iface 35 (.agg #[enc X]), .iface 35 (.agg #[enc Y])])]) = _); rw [hvX'.out, hvY'.out]; rfl
          have hFA := Aside0.mk (fun w => Formed_calls (andE X Y) w)
          have hFO := Aside0.mk (fun w => Formed_calls (orE X Y) w)
          have hEA := Aside0.mk (fun W (hb : Below w.heap.size w W) => hE.out (andE X Y) W hb)
          have hEO := Aside0.mk (fun W (hb : Below w.heap.size w W) => hE.out (orE X Y) W hb)
          have hlog := logic vs X Y
          obtain ⟨⟨rn, re⟩, hr⟩ : ∃ p, evl vs (andE X Y) = p := ⟨_, rfl⟩
          obtain ⟨⟨sn, se⟩, hs⟩ : ∃ p, evl vs (orE X Y) = p := ⟨_, rfl⟩
          obtain ⟨fa, hfa⟩ : ∃ b, fmd (andE X Y) = b := ⟨_, rfl⟩
          obtain ⟨fo, hfo⟩ : ∃ b, fmd (orE X Y) = b := ⟨_, rfl⟩
          rw [eA, hfa] at hFA
          rw [eO, hfo] at hFO
          rw [eA, hr] at hEA
          rw [eO, hs] at hEO
          rw [hr, hs, hfa, hfo] at hlog
          have hlog' := Aside0.mk hlog
          have a0 : W7.cell? ⟨g1, 0, none⟩ = some (.string ⟨#[38, 38]⟩) := (blk_cell hG1 0).trans rfl
          have a1 : W7.cell? ⟨g1, 1, none⟩ = some .nilIface := (blk_cell hG1 1).trans rfl
          have a2 : W7.cell? ⟨g1, 2, none⟩ = some .nilIface := (blk_cell hG1 2).trans rfl
          have hG1' := Aside0.mk hG1
          have hG2' := Aside0.mk hG2
          clear hE eA eO hr hs hfa hfo hlog hG1 hG2
          cases fa with
          | false =>
            go_wp2_with (first | (go_at_call 10; (with_reducible refine (hFA.out _).mono ?_); rintro e w8 ⟨rfl, hq8⟩; have hX8 := Aside0.mk hq8; clear hq8) | fail)
            go_ret
            exact ⟨rfl, below_step hBW7.out hX8.out⟩
          | true =>
            cases fo with
            | false =>
              go_wp2_with (first
                | (go_at_call 10; (with_reducible refine (hFA.out _).mono ?_); rintro e w8 ⟨rfl, hq8⟩; have hX8 := Aside0.mk hq8; clear hq8; have d0 := cell1 (blk_below hG2'.out hX8.out))
                | (go_at_call 10; (with_reducible refine (hFO.out _).mono ?_); rintro e w9 ⟨rfl, hq9⟩; have hX9 := Aside0.mk hq9; clear hq9)
                | fail)
              go_ret
              exact ⟨rfl, below_step (below_step hBW7.out hX8.out) hX9.out⟩
            | true =>
              have hEq := hlog'.out rfl rfl
              obtain ⟨h1, h2⟩ := Prod.mk.inj hEq
              subst h1 h2
              clear hEq hlog'
              go_wp2_with (first
                | (go_at_call 10; (with_reducible refine (hFA.out _).mono ?_); rintro e w8 ⟨rfl, hq8⟩; have hX8 := Aside0.mk hq8; clear hq8; have d0 := cell1 (blk_below hG2'.out hX8.out))
                | (go_at_call 10; (with_reducible refine (hFO.out _).mono ?_); rintro e w9 ⟨rfl, hq9⟩; have hX9 := Aside0.mk (below_step hX8.out hq9); clear hq9; clear d0; obtain ⟨d0, d1, d2⟩ := cells3 (blk_below hG1'.out hX9.out))
                | (go_at_call 11; (with_reducible refine (hEA.out _ (below_step hBW7.out hX9.out)).mono ?_); rintro e w10 ⟨rfl, hq10⟩; have hX10 := Aside0.mk (below_step hX9.out hq10); clear hq10; clear d0 d1 d2; have d0 := cell1 (blk_below hG2'.out hX10.out))
                | (go_at_call 11; (with_reducible refine (hEO.out _ (below_step hBW7.out hX10.out)).mono ?_); rintro e w11 ⟨rfl, hq11⟩; have hX11 := Aside0.mk (below_step hX10.out hq11); clear hq11)
                | fail)
              go_ret
              exact ⟨by simp, below_step hBW7.out hX11.out⟩
        · go_region_held3 (fun w' => w'.cell? ⟨b1, 0, none⟩ = some (.int .i64 k1) ∧ w'.cell? ⟨b1, 1, none⟩ = some (.int .i64 n1) ∧ w'.cell? ⟨b1, 2, none⟩ = some (.string t1) ∧ w'.cell? ⟨b1, 3, none⟩ = some (.slice A1 l1.length c1) ∧ w'.cell? ⟨b2, 0, none⟩ = some (.int .i64 k2) ∧ w'.cell? ⟨b2, 1, none⟩ = some (.int .i64 n2) ∧ w'.cell? ⟨b2, 2, none⟩ = some (.string t2) ∧ w'.cell? ⟨b2, 3, none⟩ = some (.slice A2 l2.length c2))
            (refine keep8 (W := w4) hE1'.out hE2'.out (by repeat (first | (with_reducible exact Below.refl _ _) | (with_reducible exact hX5.out) | (with_reducible exact hX6.out) | (with_reducible refine below_drew ?_))))
            (first
              | (go_at_call 9; (with_reducible refine (hT1.out _ (below_drew hBW4.out)).mono ?_); rintro e w5 ⟨rfl, hq5⟩; have hX5 : Aside0 (Below w4.heap.size w4 w5) := ⟨(below_drew (Below.refl _ _)).trans hq5⟩; clear hq5)
              | (go_at_call 9; (with_reducible refine (hT2.out _ (below_step hBW4.out hX5.out)).mono ?_); rintro e w6 ⟨rfl, hq6⟩; have hX6 : Aside0 (Below w4.heap.size w4 w6) := ⟨below_step hX5.out hq6⟩; clear hq6)
              | fail)
          have hBW6 := Aside0.mk (below_step hBW4.out hX6.out)
          go_upto_region 6 with fail
          refine wp_world (fun W7 hW7 => ?_)
          have hb7 : Below w6.heap.size w6 W7 := by rw [hW7]; exact below_alloc (below_alloc (Below.refl _ _) _) _
          have hG1 : W7.heap[w6.heap.size]? = some (.cells #[.string ⟨#[38, 38]⟩, .nilIface, (.iface p2 q2)] 33 (0, 0)) := by rw [hW7]; exact blk_below (w := w6.alloc _) (blk_new _ _) (below_alloc (Below.refl _ _) _)
          have hG2 : W7.heap[w6.heap.size + 1]? = some (.cells #[.iface 33 (.agg #[.string ⟨#[124, 124]⟩, .iface 35 (.agg #[.nilIface]), .iface 35 (.agg #[(.iface p2 q2)])])] 35 (0, 0)) := by rw [hW7]; exact blk_new_at (by simp)
          have hBW7 := Aside0.mk (below_step hBW6.out hb7)
          obtain ⟨g1, hg1⟩ : ∃ g, w6.heap.size = g := ⟨_, rfl⟩
          rw [hg1] at hG1 hG2
          rw [hg1]
          obtain ⟨g2, hg2⟩ : ∃ g, g1 + 1 = g := ⟨_, rfl⟩
          rw [hg2] at hG2
          rw [hg2]
          clear hW7 hb7 hg1 hg2
          have eA : enc (andE X Y) = .iface 33 (.agg #[.string ⟨#[38, 38]⟩, .nilIface, (.iface p2 q2)]) := by (show Value.iface 33 (.agg #[.string sAnd, enc X, enc Y]) = _); rw [hvX'.out, hvY'.out]; rfl
          have eO : enc (orE X Y) = .iface 35 (.agg #[.iface 33 (.agg #[.string ⟨#[124, 124]⟩, .iface 35 (.agg #[.nilIface]), .iface 35 (.agg #[(.iface p2 q2)])])]) := by (show Value.iface 35 (.agg #[.iface 33 (.agg #[.string sOr, .iface 35 (.agg #[enc X]), .iface 35 (.agg #[enc Y])])]) = _); rw [hvX'.out, hvY'.out]; rfl
          have hFA := Aside0.mk (fun w => Formed_calls (andE X Y) w)
          have hFO := Aside0.mk (fun w => Formed_calls (orE X Y) w)
          have hEA := Aside0.mk (fun W (hb : Below w.heap.size w W) => hE.out (andE X Y) W hb)
          have hEO := Aside0.mk (fun W (hb : Below w.heap.size w W) => hE.out (orE X Y) W hb)
          have hlog := logic vs X Y
          obtain ⟨⟨rn, re⟩, hr⟩ : ∃ p, evl vs (andE X Y) = p := ⟨_, rfl⟩
          obtain ⟨⟨sn, se⟩, hs⟩ : ∃ p, evl vs (orE X Y) = p := ⟨_, rfl⟩
          obtain ⟨fa, hfa⟩ : ∃ b, fmd (andE X Y) = b := ⟨_, rfl⟩
          obtain ⟨fo, hfo⟩ : ∃ b, fmd (orE X Y) = b := ⟨_, rfl⟩
          rw [eA, hfa] at hFA
          rw [eO, hfo] at hFO
          rw [eA, hr] at hEA
          rw [eO, hs] at hEO
          rw [hr, hs, hfa, hfo] at hlog
          have hlog' := Aside0.mk hlog
          have a0 : W7.cell? ⟨g1, 0, none⟩ = some (.string ⟨#[38, 38]⟩) := (blk_cell hG1 0).trans rfl
          have a1 : W7.cell? ⟨g1, 1, none⟩ = some .nilIface := (blk_cell hG1 1).trans rfl
          have a2 : W7.cell? ⟨g1, 2, none⟩ = some (.iface p2 q2) := (blk_cell hG1 2).trans rfl
          have hG1' := Aside0.mk hG1
          have hG2' := Aside0.mk hG2
          clear hE eA eO hr hs hfa hfo hlog hG1 hG2
          cases fa with
          | false =>
            go_wp2_with (first | (go_at_call 10; (with_reducible refine (hFA.out _).mono ?_); rintro e w8 ⟨rfl, hq8⟩; have hX8 := Aside0.mk hq8; clear hq8) | fail)
            go_ret
            exact ⟨rfl, below_step hBW7.out hX8.out⟩
          | true =>
            cases fo with
            | false =>
              go_wp2_with (first
                | (go_at_call 10; (with_reducible refine (hFA.out _).mono ?_); rintro e w8 ⟨rfl, hq8⟩; have hX8 := Aside0.mk hq8; clear hq8; have d0 := cell1 (blk_below hG2'.out hX8.out))
                | (go_at_call 10; (with_reducible refine (hFO.out _).mono ?_); rintro e w9 ⟨rfl, hq9⟩; have hX9 := Aside0.mk hq9; clear hq9)
                | fail)
              go_ret
              exact ⟨rfl, below_step (below_step hBW7.out hX8.out) hX9.out⟩
            | true =>
              have hEq := hlog'.out rfl rfl
              obtain ⟨h1, h2⟩ := Prod.mk.inj hEq
              subst h1 h2
              clear hEq hlog'
              go_wp2_with (first
                | (go_at_call 10; (with_reducible refine (hFA.out _).mono ?_); rintro e w8 ⟨rfl, hq8⟩; have hX8 := Aside0.mk hq8; clear hq8; have d0 := cell1 (blk_below hG2'.out hX8.out))
                | (go_at_call 10; (with_reducible refine (hFO.out _).mono ?_); rintro e w9 ⟨rfl, hq9⟩; have hX9 := Aside0.mk (below_step hX8.out hq9); clear hq9; clear d0; obtain ⟨d0, d1, d2⟩ := cells3 (blk_below hG1'.out hX9.out))
                | (go_at_call 11; (with_reducible refine (hEA.out _ (below_step hBW7.out hX9.out)).mono ?_); rintro e w10 ⟨rfl, hq10⟩; have hX10 := Aside0.mk (below_step hX9.out hq10); clear hq10; clear d0 d1 d2; have d0 := cell1 (blk_below hG2'.out hX10.out))
                | (go_at_call 11; (with_reducible refine (hEO.out _ (below_step hBW7.out hX10.out)).mono ?_); rintro e w11 ⟨rfl, hq11⟩; have hX11 := Aside0.mk (below_step hX10.out hq11); clear hq11)
                | fail)
              go_ret
              exact ⟨by simp, below_step hBW7.out hX11.out⟩
        · go_region_held3 (fun w' => w'.cell? ⟨b1, 0, none⟩ = some (.int .i64 k1) ∧ w'.cell? ⟨b1, 1, none⟩ = some (.int .i64 n1) ∧ w'.cell? ⟨b1, 2, none⟩ = some (.string t1) ∧ w'.cell? ⟨b1, 3, none⟩ = some (.slice A1 l1.length c1) ∧ w'.cell? ⟨b2, 0, none⟩ = some (.int .i64 k2) ∧ w'.cell? ⟨b2, 1, none⟩ = some (.int .i64 n2) ∧ w'.cell? ⟨b2, 2, none⟩ = some (.string t2) ∧ w'.cell? ⟨b2, 3, none⟩ = some (.slice A2 l2.length c2))
            (refine keep8 (W := w4) hE1'.out hE2'.out (by repeat (first | (with_reducible exact Below.refl _ _) | (with_reducible exact hX5.out) | (with_reducible exact hX6.out) | (with_reducible refine below_drew ?_))))
            (first
              | (go_at_call 9; (with_reducible refine (hT1.out _ (below_drew hBW4.out)).mono ?_); rintro e w5 ⟨rfl, hq5⟩; have hX5 : Aside0 (Below w4.heap.size w4 w5) := ⟨(below_drew (Below.refl _ _)).trans hq5⟩; clear hq5)
              | (go_at_call 9; (with_reducible refine (hT2.out _ (below_step hBW4.out hX5.out)).mono ?_); rintro e w6 ⟨rfl, hq6⟩; have hX6 : Aside0 (Below w4.heap.size w4 w6) := ⟨below_step hX5.out hq6⟩; clear hq6)
              | fail)
          have hBW6 := Aside0.mk (below_step hBW4.out hX6.out)
          go_upto_region 6 with fail
          refine wp_world (fun W7 hW7 => ?_)
          have hb7 : Below w6.heap.size w6 W7 := by rw [hW7]; exact below_alloc (below_alloc (Below.refl _ _) _) _
          have hG1 : W7.heap[w6.heap.size]? = some (.cells #[.string ⟨#[38, 38]⟩, (.iface p1 q1), .nilIface] 33 (0, 0)) := by rw [hW7]; exact blk_below (w := w6.alloc _) (blk_new _ _) (below_alloc (Below.refl _ _) _)
          have hG2 : W7.heap[w6.heap.size + 1]? = some (.cells #[.iface 33 (.agg #[.string ⟨#[124, 124]⟩, .iface 35 (.agg #[(.iface p1 q1)]), .iface 35 (.agg #[.nilIface])])] 35 (0, 0)) := by rw [hW7]; exact blk_new_at (by simp)
          have hBW7 := Aside0.mk (below_step hBW6.out hb7)
          obtain ⟨g1, hg1⟩ : ∃ g, w6.heap.size = g := ⟨_, rfl⟩
          rw [hg1] at hG1 hG2
          rw [hg1]
          obtain ⟨g2, hg2⟩ : ∃ g, g1 + 1 = g := ⟨_, rfl⟩
          rw [hg2] at hG2
          rw [hg2]
          clear hW7 hb7 hg1 hg2
          have eA : enc (andE X Y) = .iface 33 (.agg #[.string ⟨#[38, 38]⟩, (.iface p1 q1), .nilIface]) := by (show Value.iface 33 (.agg #[.string sAnd, enc X, enc Y]) = _); rw [hvX'.out, hvY'.out]; rfl
          have eO : enc (orE X Y) = .iface 35 (.agg #[.iface 33 (.agg #[.string ⟨#[124, 124]⟩, .iface 35 (.agg #[(.iface p1 q1)]), .iface 35 (.agg #[.nilIface])])]) := by (show Value.iface 35 (.agg #[.iface 33 (.agg #[.string sOr, .iface 35 (.agg #[enc X]), .iface 35 (.agg #[enc Y])])]) = _); rw [hvX'.out, hvY'.out]; rfl
          have hFA := Aside0.mk (fun w => Formed_calls (andE X Y) w)
          have hFO := Aside0.mk (fun w => Formed_calls (orE X Y) w)
          have hEA := Aside0.mk (fun W (hb : Below w.heap.size w W) => hE.out (andE X Y) W hb)
          have hEO := Aside0.mk (fun W (hb : Below w.heap.size w W) => hE.out (orE X Y) W hb)
          have hlog := logic vs X Y
          obtain ⟨⟨rn, re⟩, hr⟩ : ∃ p, evl vs (andE X Y) = p := ⟨_, rfl⟩
          obtain ⟨⟨sn, se⟩, hs⟩ : ∃ p, evl vs (orE X Y) = p := ⟨_, rfl⟩
          obtain ⟨fa, hfa⟩ : ∃ b, fmd (andE X Y) = b := ⟨_, rfl⟩
          obtain ⟨fo, hfo⟩ : ∃ b, fmd (orE X Y) = b := ⟨_, rfl⟩
          rw [eA, hfa] at hFA
          rw [eO, hfo] at hFO
          rw [eA, hr] at hEA
          rw [eO, hs] at hEO
          rw [hr, hs, hfa, hfo] at hlog
          have hlog' := Aside0.mk hlog
          have a0 : W7.cell? ⟨g1, 0, none⟩ = some (.string ⟨#[38, 38]⟩) := (blk_cell hG1 0).trans rfl
          have a1 : W7.cell? ⟨g1, 1, none⟩ = some (.iface p1 q1) := (blk_cell hG1 1).trans rfl
          have a2 : W7.cell? ⟨g1, 2, none⟩ = some .nilIface := (blk_cell hG1 2).trans rfl
          have hG1' := Aside0.mk hG1
          have hG2' := Aside0.mk hG2
          clear hE eA eO hr hs hfa hfo hlog hG1 hG2
          cases fa with
          | false =>
            go_wp2_with (first | (go_at_call 10; (with_reducible refine (hFA.out _).mono ?_); rintro e w8 ⟨rfl, hq8⟩; have hX8 := Aside0.mk hq8; clear hq8) | fail)
            go_ret
            exact ⟨rfl, below_step hBW7.out hX8.out⟩
          | true =>
            cases fo with
            | false =>
              go_wp2_with (first
                | (go_at_call 10; (with_reducible refine (hFA.out _).mono ?_); rintro e w8 ⟨rfl, hq8⟩; have hX8 := Aside0.mk hq8; clear hq8; have d0 := cell1 (blk_below hG2'.out hX8.out))
                | (go_at_call 10; (with_reducible refine (hFO.out _).mono ?_); rintro e w9 ⟨rfl, hq9⟩; have hX9 := Aside0.mk hq9; clear hq9)
                | fail)
              go_ret
              exact ⟨rfl, below_step (below_step hBW7.out hX8.out) hX9.out⟩
            | true =>
              have hEq := hlog'.out rfl rfl
              obtain ⟨h1, h2⟩ := Prod.mk.inj hEq
              subst h1 h2
              clear hEq hlog'
              go_wp2_with (first
                | (go_at_call 10; (with_reducible refine (hFA.out _).mono ?_); rintro e w8 ⟨rfl, hq8⟩; have hX8 := Aside0.mk hq8; clear hq8; have d0 := cell1 (blk_below hG2'.out hX8.out))
                | (go_at_call 10; (with_reducible refine (hFO.out _).mono ?_); rintro e w9 ⟨rfl, hq9⟩; have hX9 := Aside0.mk (below_step hX8.out hq9); clear hq9; clear d0; obtain ⟨d0, d1, d2⟩ := cells3 (blk_below hG1'.out hX9.out))
                | (go_at_call 11; (with_reducible refine (hEA.out _ (below_step hBW7.out hX9.out)).mono ?_); rintro e w10 ⟨rfl, hq10⟩; have hX10 := Aside0.mk (below_step hX9.out hq10); clear hq10; clear d0 d1 d2; have d0 := cell1 (blk_below hG2'.out hX10.out))
                | (go_at_call 11; (with_reducible refine (hEO.out _ (below_step hBW7.out hX10.out)).mono ?_); rintro e w11 ⟨rfl, hq11⟩; have hX11 := Aside0.mk (below_step hX10.out hq11); clear hq11)
                | fail)
              go_ret
              exact ⟨by simp, below_step hBW7.out hX11.out⟩
        · go_region_held3 (fun w' => w'.cell? ⟨b1, 0, none⟩ = some (.int .i64 k1) ∧ w'.cell? ⟨b1, 1, none⟩ = some (.int .i64 n1) ∧ w'.cell? ⟨b1, 2, none⟩ = some (.string t1) ∧ w'.cell? ⟨b1, 3, none⟩ = some (.slice A1 l1.length c1) ∧ w'.cell? ⟨b2, 0, none⟩ = some (.int .i64 k2) ∧ w'.cell? ⟨b2, 1, none⟩ = some (.int .i64 n2) ∧ w'.cell? ⟨b2, 2, none⟩ = some (.string t2) ∧ w'.cell? ⟨b2, 3, none⟩ = some (.slice A2 l2.length c2))
            (refine keep8 (W := w4) hE1'.out hE2'.out (by repeat (first | (with_reducible exact Below.refl _ _) | (with_reducible exact hX5.out) | (with_reducible exact hX6.out) | (with_reducible refine below_drew ?_))))
            (first
              | (go_at_call 9; (with_reducible refine (hT1.out _ (below_drew hBW4.out)).mono ?_); rintro e w5 ⟨rfl, hq5⟩; have hX5 : Aside0 (Below w4.heap.size w4 w5) := ⟨(below_drew (Below.refl _ _)).trans hq5⟩; clear hq5)
              | (go_at_call 9; (with_reducible refine (hT2.out _ (below_step hBW4.out hX5.out)).mono ?_); rintro e w6 ⟨rfl, hq6⟩; have hX6 : Aside0 (Below w4.heap.size w4 w6) := ⟨below_step hX5.out hq6⟩; clear hq6)
              | fail)
          have hBW6 := Aside0.mk (below_step hBW4.out hX6.out)
          go_upto_region 6 with fail
          refine wp_world (fun W7 hW7 => ?_)
          have hb7 : Below w6.heap.size w6 W7 := by rw [hW7]; exact below_alloc (below_alloc (Below.refl _ _) _) _
          have hG1 : W7.heap[w6.heap.size]? = some (.cells #[.string ⟨#[38, 38]⟩, (.iface p1 q1), (.iface p2 q2)] 33 (0, 0)) := by rw [hW7]; exact blk_below (w := w6.alloc _) (blk_new _ _) (below_alloc (Below.refl _ _) _)
          have hG2 : W7.heap[w6.heap.size + 1]? = some (.cells #[.iface 33 (.agg #[.string ⟨#[124, 124]⟩, .iface 35 (.agg #[(.iface p1 q1)]), .iface 35 (.agg #[(.iface p2 q2)])])] 35 (0, 0)) := by rw [hW7]; exact blk_new_at (by simp)
          have hBW7 := Aside0.mk (below_step hBW6.out hb7)
          obtain ⟨g1, hg1⟩ : ∃ g, w6.heap.size = g := ⟨_, rfl⟩
          rw [hg1] at hG1 hG2
          rw [hg1]
          obtain ⟨g2, hg2⟩ : ∃ g, g1 + 1 = g := ⟨_, rfl⟩
          rw [hg2] at hG2
          rw [hg2]
          clear hW7 hb7 hg1 hg2
          have eA : enc (andE X Y) = .iface 33 (.agg #[.string ⟨#[38, 38]⟩, (.iface p1 q1), (.iface p2 q2)]) := by (show Value.iface 33 (.agg #[.string sAnd, enc X, enc Y]) = _); rw [hvX'.out, hvY'.out]; rfl
          have eO : enc (orE X Y) = .iface 35 (.agg #[.iface 33 (.agg #[.string ⟨#[124, 124]⟩, .iface 35 (.agg #[(.iface p1 q1)]), .iface 35 (.agg #[(.iface p2 q2)])])]) := by (show Value.iface 35 (.agg #[.iface 33 (.agg #[.string sOr, .iface 35 (.agg #[enc X]), .iface 35 (.agg #[enc Y])])]) = _); rw [hvX'.out, hvY'.out]; rfl
          have hFA := Aside0.mk (fun w => Formed_calls (andE X Y) w)
          have hFO := Aside0.mk (fun w => Formed_calls (orE X Y) w)
          have hEA := Aside0.mk (fun W (hb : Below w.heap.size w W) => hE.out (andE X Y) W hb)
          have hEO := Aside0.mk (fun W (hb : Below w.heap.size w W) => hE.out (orE X Y) W hb)
          have hlog := logic vs X Y
          obtain ⟨⟨rn, re⟩, hr⟩ : ∃ p, evl vs (andE X Y) = p := ⟨_, rfl⟩
          obtain ⟨⟨sn, se⟩, hs⟩ : ∃ p, evl vs (orE X Y) = p := ⟨_, rfl⟩
          obtain ⟨fa, hfa⟩ : ∃ b, fmd (andE X Y) = b := ⟨_, rfl⟩
          obtain ⟨fo, hfo⟩ : ∃ b, fmd (orE X Y) = b := ⟨_, rfl⟩
          rw [eA, hfa] at hFA
          rw [eO, hfo] at hFO
          rw [eA, hr] at hEA
          rw [eO, hs] at hEO
          rw [hr, hs, hfa, hfo] at hlog
          have hlog' := Aside0.mk hlog
          have a0 : W7.cell? ⟨g1, 0, none⟩ = some (.string ⟨#[38, 38]⟩) := (blk_cell hG1 0).trans rfl
          have a1 : W7.cell? ⟨g1, 1, none⟩ = some (.iface p1 q1) := (blk_cell hG1 1).trans rfl
          have a2 : W7.cell? ⟨g1, 2, none⟩ = some (.iface p2 q2) := (blk_cell hG1 2).trans rfl
          have hG1' := Aside0.mk hG1
          have hG2' := Aside0.mk hG2
          clear hE eA eO hr hs hfa hfo hlog hG1 hG2
          cases fa with
          | false =>
            go_wp2_with (first | (go_at_call 10; (with_reducible refine (hFA.out _).mono ?_); rintro e w8 ⟨rfl, hq8⟩; have hX8 := Aside0.mk hq8; clear hq8) | fail)
            go_ret
            exact ⟨rfl, below_step hBW7.out hX8.out⟩
          | true =>
            cases fo with
            | false =>
              go_wp2_with (first
                | (go_at_call 10; (with_reducible refine (hFA.out _).mono ?_); rintro e w8 ⟨rfl, hq8⟩; have hX8 := Aside0.mk hq8; clear hq8; have d0 := cell1 (blk_below hG2'.out hX8.out))
                | (go_at_call 10; (with_reducible refine (hFO.out _).mono ?_); rintro e w9 ⟨rfl, hq9⟩; have hX9 := Aside0.mk hq9; clear hq9)
                | fail)
              go_ret
              exact ⟨rfl, below_step (below_step hBW7.out hX8.out) hX9.out⟩
            | true =>
              have hEq := hlog'.out rfl rfl
              obtain ⟨h1, h2⟩ := Prod.mk.inj hEq
              subst h1 h2
              clear hEq hlog'
              go_wp2_with (first
                | (go_at_call 10; (with_reducible refine (hFA.out _).mono ?_); rintro e w8 ⟨rfl, hq8⟩; have hX8 := Aside0.mk hq8; clear hq8; have d0 := cell1 (blk_below hG2'.out hX8.out))
                | (go_at_call 10; (with_reducible refine (hFO.out _).mono ?_); rintro e w9 ⟨rfl, hq9⟩; have hX9 := Aside0.mk (below_step hX8.out hq9); clear hq9; clear d0; obtain ⟨d0, d1, d2⟩ := cells3 (blk_below hG1'.out hX9.out))
                | (go_at_call 11; (with_reducible refine (hEA.out _ (below_step hBW7.out hX9.out)).mono ?_); rintro e w10 ⟨rfl, hq10⟩; have hX10 := Aside0.mk (below_step hX9.out hq10); clear hq10; clear d0 d1 d2; have d0 := cell1 (blk_below hG2'.out hX10.out))
                | (go_at_call 11; (with_reducible refine (hEO.out _ (below_step hBW7.out hX10.out)).mono ?_); rintro e w11 ⟨rfl, hq11⟩; have hX11 := Aside0.mk (below_step hX10.out hq11); clear hq11)
                | fail)
              go_ret
              exact ⟨by simp, below_step hBW7.out hX11.out⟩
end Go.Proofs.Ytdhlbhkpleoicaa.Exp
