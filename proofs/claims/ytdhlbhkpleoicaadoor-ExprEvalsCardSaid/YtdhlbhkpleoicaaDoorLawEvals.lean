/- ExprEvals, walked. -/
import Derived.Test.YtdhlbhkpleoicaaDoorExRForm
namespace Go.Proofs.YtdhlbhkpleoicaaDoor.Exp
open Go.RowKit Go.Proofs.YtdhlbhkpleoicaaDoorW.PrintWords Go.Proofs.YtdhlbhkpleoicaaDoorW.PrintLast Go.Proofs.YtdhlbhkpleoicaaDoorW.PrintMore Go.Proofs.YtdhlbhkpleoicaaDoor.PExprEvals
open Frm
set_option linter.unusedVariables false
set_option linter.unusedSimpArgs false
theorem clean_ok (x : S24) (A : Option Addr) (c : Nat) (w : World) (hC : Kd.C k24 w A x.f3.length x.f3) (hc : x.f3.length ≤ c) :
    Calls Tryd.prog 12 #[.agg #[.int .i64 x.f0, .int .i64 x.f1, .string x.f2, .slice A x.f3.length c]] w fun e w' => ∃ A' c', e = .returned (nv (theirs x) A' c') ∧
      Kd.C k24 w' A' (toN (theirs x)).f3.length (toN (theirs x)).f3 ∧ (toN (theirs x)).f3.length ≤ c' ∧ Below w.heap.size w w' := Clean_calls x A c w hC hc
set_option maxHeartbeats 4000000 in
set_option maxRecDepth 100000 in
theorem evals_calls (x : S24) (vs : List S46) (A1 A3 : Option Addr) (c1 c3 : Nat) (w : World) (hC1 : Kd.C k24 w A1 x.f3.length x.f3) (hc1 : x.f3.length ≤ c1) (hC3 : Kd.C k46 w A3 vs.length vs) (hc3 : vs.length ≤ c3) (hvl : vs.length ≤ 140737488351232) (hT : Tabs w) :
    Calls Tryd.prog 3 #[.agg #[.int .i64 x.f0, .int .i64 x.f1, .string x.f2, .slice A1 x.f3.length c1], .slice A3 vs.length c3] w fun e w' => e = .returned (.bool true) ∧ Below w.heap.size w w' := by
  obtain ⟨s1, hsh, hs1⟩ := SmallS_calls x (okN_C 200 x w A1 hC1)
  have hS1 := Aside0.mk (fun W (hb : Below w.heap.size w W) => hs1 A1 c1 W (Kd.C_below hC1 hb) hc1)
  have hT1 := Aside0.mk (fun W (hb : Below w.heap.size w W) => Theirs_calls x A1 c1 W (Kd.C_below hC1 hb) hc1)
  have hK1 := Aside0.mk (fun W (hb : Below w.heap.size w W) => clean_ok x A1 c1 W (Kd.C_below hC1 hb) hc1)
  have hF := Aside0.mk (fun W (hb : Below w.heap.size w W) => few_calls vs A3 c3 W (Kd.C_below hC3 hb))
  have hE := Aside0.mk (fun W (hb : Below w.heap.size w W) => Eval_calls (theirs x) vs hvl A3 c3 W (Kd.C_below hC3 hb) hc3)
  have hR := Aside0.mk (fun (h : s1 = true) W (hb : Below w.heap.size w W) A c hC hc => rEval_calls (theirs x) (hsh h) vs hvl A c A3 c3 W hC hc (Kd.C_below hC3 hb) hc3 (hT.below hb))
  obtain ⟨fb, hfb⟩ : ∃ b, fewL vs 0 = b := ⟨_, rfl⟩
  rw [hfb] at hF
  obtain ⟨X, hX⟩ : ∃ X, theirs x = X := ⟨_, rfl⟩
  rw [hX] at hT1 hK1 hE hR
  obtain ⟨⟨rn, re⟩, hr⟩ : ∃ p, evl vs X = p := ⟨_, rfl⟩
  rw [hr] at hE hR
  obtain ⟨k1, n1, t1, l1⟩ := x
  simp only [] at hS1 hT1 hK1 hE hR ⊢
  clear hs1 hC1 hC3 hc1 hc3 hfb hX hvl hT hsh hr
  have hAw := Aside0.mk (fun w => awake_calls w)
  obtain ⟨vX, hvX⟩ : ∃ v, enc X = v := ⟨_, rfl⟩
  have hf1 : vX = .nilIface ∨ ∃ t u, vX = .iface t u := hvX ▸ enc_form X
  rw [hvX] at hT1 hE
  have hf1' := Aside0.mk hf1
  obtain ⟨nX, hnX⟩ : ∃ n, toN X = n := ⟨_, rfl⟩
  unfold nv at hK1 hR
  rw [hnX] at hK1 hR
  obtain ⟨k2, n2, t2, l2⟩ := nX
  simp only [] at hK1 hR
  clear hvX hf1 hnX
  go_enter Tryd.func3, Tryd.ntmps3
  go_upto_region 1 with fail
  refine wp_world (fun W hW => ?_)
  have hB1 : W.heap[w.heap.size]? = some (.cells #[.int .i64 k1, .int .i64 n1, .string t1, .slice A1 l1.length c1] 24 (0, 0)) := by rw [hW]; exact blk_new _ _
  have hBW : Aside0 (Below w.heap.size w W) := ⟨by rw [hW]; exact below_alloc (Below.refl _ _) _⟩
  obtain ⟨b1, hb1⟩ : ∃ b, w.heap.size = b := ⟨_, rfl⟩
  rw [hb1] at hB1
  rw [hb1]
  have hB1' := Aside0.mk hB1
  clear hW hB1
  have hc2 : s1 = false ∨ (s1 = true ∧ fb = false) ∨ (s1 = true ∧ fb = true) := by cases s1 <;> cases fb <;> simp
  rcases hc2 with rfl | ⟨rfl, rfl⟩ | ⟨rfl, rfl⟩
  iterate 2
    · go_upto_region 2 with (first
      | (go_at_call 6; (with_reducible refine (hAw.out _).mono ?_); rintro e w1 ⟨rfl, hq1⟩; have hX1 := Aside0.mk hq1; clear hq1; obtain ⟨x0, x1, x2, x3, xl⟩ := cells4n (blk_below hB1'.out hX1.out))
      | (go_at_call 7; (with_reducible refine (hS1.out _ (below_step hBW.out hX1.out)).mono ?_); rintro e w2 ⟨rfl, hq2⟩; have hX2 : Aside0 (Below W.heap.size W w2) := ⟨below_step hX1.out hq2⟩; clear hq2)
      | (go_at_call 8; (with_reducible refine (hF.out _ (below_step hBW.out hX2.out)).mono ?_); rintro e w4 ⟨rfl, ⟨m4, hm4⟩⟩; have hX4 : Aside0 (Below W.heap.size W w4) := ⟨by rw [hm4]; exact pw_below_drewN hX2.out _⟩; clear hm4)
      | fail)
      go_wp2_with (first | (go_at_call 6; (with_reducible refine (hAw.out _).mono ?_); rintro e w9 ⟨rfl, hq9⟩; have hX9 := Aside0.mk hq9; clear hq9) | fail)
      go_ret
      exact ⟨rfl, below_step hBW.out (below_step (by first | exact hX4.out | exact hX2.out) hX9.out)⟩
  · have hR2 := Aside0.mk (hR.out rfl)
    clear hR
    go_upto_region 3 with (first
      | (go_at_call 6; (with_reducible refine (hAw.out _).mono ?_); rintro e w1 ⟨rfl, hq1⟩; have hX1 := Aside0.mk hq1; clear hq1; obtain ⟨x0, x1, x2, x3, xl⟩ := cells4n (blk_below hB1'.out hX1.out))
      | (go_at_call 7; (with_reducible refine (hS1.out _ (below_step hBW.out hX1.out)).mono ?_); rintro e w2 ⟨rfl, hq2⟩; have hX2 : Aside0 (Below W.heap.size W w2) := ⟨below_step hX1.out hq2⟩; clear hq2)
      | (go_at_call 8; (with_reducible refine (hF.out _ (below_step hBW.out hX2.out)).mono ?_); rintro e w4 ⟨rfl, ⟨m4, hm4⟩⟩; have hX4 : Aside0 (Below W.heap.size W w4) := ⟨by rw [hm4]; exact pw_below_drewN hX2.out _⟩; clear hm4)
      | fail)
    have hX4' := hX4
    clear x0 x1 x2 x3 xl
    obtain ⟨x0, x1, x2, x3, xl⟩ := cells4n (blk_below hB1'.out hX4.out)
    have hX5 := Aside0.mk (below_step hBW.out hX4.out)
    have hf2 := hf1'.out
    rcases hf2 with rfl | ⟨p, q, rfl⟩
    all_goals
    go_wp2_with (first
      | (go_at_call 10; (with_reducible refine (hT1.out _ hX5.out).mono ?_); rintro e w6 ⟨rfl, hq6⟩; have hX6 : Aside0 (Below W.heap.size W w6) := ⟨below_step hX4.out hq6⟩; have hY6 := Aside0.mk (below_step hBW.out hX6.out); clear hq6)
      | (go_at_call 9; (with_reducible refine (hE.out _ hY6.out).mono ?_); rintro e w7 ⟨rfl, hq7⟩; have hX7 : Aside0 (Below W.heap.size W w7) := ⟨below_step hX6.out hq7⟩; have hY7 := Aside0.mk (below_step hBW.out hX7.out); clear hq7; clear x0 x1 x2 x3 xl; obtain ⟨x0, x1, x2, x3, xl⟩ := cells4n (blk_below hB1'.out hX7.out))
      | (go_at_call 12; (with_reducible refine (hK1.out _ hY7.out).mono ?_); rintro e w8 ⟨A8, c8, rfl, hC8, hc8, hq8⟩; have hX8 : Aside0 (Below W.heap.size W w8) := ⟨below_step hX7.out hq8⟩; have hY8 := Aside0.mk (below_step hBW.out hX8.out); have hR8 := Aside0.mk (hR2.out _ hY8.out A8 c8 hC8 hc8); clear hq8 hC8 hc8)
      | (go_at_call 11; (with_reducible refine hR8.out.mono ?_); rintro e w9 ⟨rfl, hq9⟩; have hX9 : Aside0 (Below W.heap.size W w9) := ⟨below_step hX8.out hq9⟩; have hY9 := Aside0.mk (below_step hBW.out hX9.out); clear hq9)
      | fail)
    go_ret
    exact ⟨by simp, hY9.out⟩
end Go.Proofs.YtdhlbhkpleoicaaDoor.Exp
