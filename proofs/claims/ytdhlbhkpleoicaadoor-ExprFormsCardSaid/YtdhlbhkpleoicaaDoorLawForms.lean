/- ExprForms, walked. -/
import Derived.Test.YtdhlbhkpleoicaaDoorExKind
namespace Go.Proofs.YtdhlbhkpleoicaaDoor.Exp
open Go.RowKit Go.Proofs.YtdhlbhkpleoicaaDoorW.PrintWords Go.Proofs.YtdhlbhkpleoicaaDoorW.PrintLast Go.Proofs.YtdhlbhkpleoicaaDoorW.PrintMore Go.Proofs.YtdhlbhkpleoicaaDoor.PExprEvals
open Frm
set_option linter.unusedVariables false
set_option linter.unusedSimpArgs false
set_option maxHeartbeats 8000000
set_option maxRecDepth 100000
attribute [local go_sem] kind_lit kind_ref kind_not kind_neg kind_bin
theorem forms_calls (x : S24) (A1 : Option Addr) (c1 : Nat) (w : World) (hC1 : Kd.C k24 w A1 x.f3.length x.f3) (hc1 : x.f3.length ≤ c1) (hT : Tabs w) :
    Calls Tryd.prog 4 #[.agg #[.int .i64 x.f0, .int .i64 x.f1, .string x.f2, .slice A1 x.f3.length c1]] w fun e w' => e = .returned (.bool true) ∧ Below w.heap.size w w' := by
  obtain ⟨s1, hsh, hs1⟩ := SmallS_calls x (okN_C 200 x w A1 hC1)
  have hS1 := Aside0.mk (fun W (hb : Below w.heap.size w W) => hs1 A1 c1 W (Kd.C_below hC1 hb) hc1)
  have hT1 := Aside0.mk (fun W (hb : Below w.heap.size w W) => Theirs_calls x A1 c1 W (Kd.C_below hC1 hb) hc1)
  have hK1 := Aside0.mk (fun W (hb : Below w.heap.size w W) => clean_ok x A1 c1 W (Kd.C_below hC1 hb) hc1)
  have hFm := Aside0.mk (fun W => Formed_calls (theirs x) W)
  have hNd := Aside0.mk (fun W => Nodes_calls (theirs x) W)
  have hRF := Aside0.mk (fun (h : s1 = true) W (hb : Below w.heap.size w W) A c hC hc => rFormed_calls (theirs x) (hsh h) A c W hC hc (hT.below hb))
  have hRN := Aside0.mk (fun W A c hC hc => rNodes_calls (theirs x) A c W hC hc)
  have hown := kind_own x
  obtain ⟨X, hX⟩ : ∃ X, theirs x = X := ⟨_, rfl⟩
  rw [hX] at hT1 hK1 hFm hNd hRF hRN hown
  rw [nodes_eq] at hNd
  have hown' := Aside0.mk hown
  obtain ⟨fb, hfb⟩ : ∃ b, fmd X = b := ⟨_, rfl⟩
  obtain ⟨n0, hn0⟩ : ∃ n, nd X = n := ⟨_, rfl⟩
  rw [hfb] at hFm hRF
  rw [hn0] at hNd hRN
  obtain ⟨k1, n1, t1, l1⟩ := x
  simp only [] at hS1 hT1 hK1 hown' ⊢
  clear hs1 hC1 hc1 hX hT hsh hfb hn0 hown
  have hAw := Aside0.mk (fun w => awake_calls w)
  obtain ⟨vX, hvX⟩ : ∃ v, enc X = v := ⟨_, rfl⟩
  have hf1 : vX = .nilIface ∨ ∃ t u, vX = .iface t u := hvX ▸ enc_form X
  rw [hvX] at hT1 hFm hNd
  have hf1' := Aside0.mk hf1
  have hvX' := Aside0.mk hvX
  unfold nv at hK1 hRF hRN
  have hnat : Aside0 (X ≠ .none → k1 = (toN X).f0) := hown'
  clear hvX hf1 hown'
  go_enter Tryd.func4, Tryd.ntmps4
  go_upto_region 1 with fail
  refine wp_world (fun W hW => ?_)
  have hB1 : W.heap[w.heap.size]? = some (.cells #[.int .i64 k1, .int .i64 n1, .string t1, .slice A1 l1.length c1] 24 (0, 0)) := by rw [hW]; exact blk_new _ _
  have hBW : Aside0 (Below w.heap.size w W) := ⟨by rw [hW]; exact below_alloc (Below.refl _ _) _⟩
  obtain ⟨b1, hb1⟩ : ∃ b, w.heap.size = b := ⟨_, rfl⟩
  rw [hb1] at hB1
  rw [hb1]
  have hB1' := Aside0.mk hB1
  clear hW hB1
  cases s1 with
  | false =>
    go_upto_region 2 with (first
      | (go_at_call 6; (with_reducible refine (hAw.out _).mono ?_); rintro e w1 ⟨rfl, hq1⟩; have hX1 := Aside0.mk hq1; clear hq1; obtain ⟨x0, x1, x2, x3, xl⟩ := cells4n (blk_below hB1'.out hX1.out))
      | (go_at_call 7; (with_reducible refine (hS1.out _ (below_step hBW.out hX1.out)).mono ?_); rintro e w2 ⟨rfl, hq2⟩; have hX2 : Aside0 (Below W.heap.size W w2) := ⟨below_step hX1.out hq2⟩; clear hq2)
      | fail)
    go_wp2_with (first | (go_at_call 6; (with_reducible refine (hAw.out _).mono ?_); rintro e w9 ⟨rfl, hq9⟩; have hX9 := Aside0.mk hq9; clear hq9) | fail)
    go_ret
    exact ⟨rfl, below_step hBW.out (below_step hX2.out hX9.out)⟩
  | true =>
    have hRF2 := Aside0.mk (hRF.out rfl)
    clear hRF
    go_upto_region 3 with (first
      | (go_at_call 6; (with_reducible refine (hAw.out _).mono ?_); rintro e w1 ⟨rfl, hq1⟩; have hX1 := Aside0.mk hq1; clear hq1; obtain ⟨x0, x1, x2, x3, xl⟩ := cells4n (blk_below hB1'.out hX1.out))
      | (go_at_call 7; (with_reducible refine (hS1.out _ (below_step hBW.out hX1.out)).mono ?_); rintro e w2 ⟨rfl, hq2⟩; have hX2 : Aside0 (Below W.heap.size W w2) := ⟨below_step hX1.out hq2⟩; clear hq2)
      | fail)
    clear x0 x1 x2 x3 xl
    obtain ⟨x0, x1, x2, x3, xl⟩ := cells4n (blk_below hB1'.out hX2.out)
    have hBW2 := Aside0.mk (below_step hBW.out hX2.out)
    have hf2 := hf1'.out
    rcases hf2 with rfl | ⟨p, q, rfl⟩
    all_goals
      go_upto_region 4 with (first
        | (go_at_call 10; (with_reducible refine (hT1.out _ hBW2.out).mono ?_); rintro e w5 ⟨rfl, hq5⟩; have hX5 : Aside0 (Below W.heap.size W w5) := ⟨below_step hX2.out hq5⟩; clear hq5)
        | fail)
      have hBW5 := Aside0.mk (below_step hBW.out hX5.out)
      have hB5 := Aside0.mk (blk_below hB1'.out hX5.out)
      clear x0 x1 x2 x3 xl hT1 hS1 hX1 hX2 hBW2
    · obtain rfl : X = .none := by
        have := hvX'.out
        cases X <;> first | rfl | cases this
      go_quiet (fail)
      go_upto_region 6 with fail
      refine wp_world (fun W7 hW7 => ?_)
      have hb7 : Aside0 (Below w5.heap.size w5 W7) := ⟨by rw [hW7]; repeat (first | (with_reducible exact Below.refl _ _) | (with_reducible exact hX6.out) | (with_reducible refine below_drew ?_) | (with_reducible refine pw_below_drewN ?_ _))⟩
      clear hW7
      have hG := Aside0.mk (blk_below hB5.out hb7.out)
      have hY7 := Aside0.mk (below_step hBW5.out hb7.out)
      obtain ⟨nX, hnX⟩ : ∃ n, toN .none = n := ⟨_, rfl⟩
      rw [hnX] at hK1 hRF2 hRN
      clear hnX
      obtain ⟨k2, n2, t2, l2⟩ := nX
      simp only [] at hK1 hRF2 hRN
      go_region_held3 (fun w' => w'.cell? ⟨b1, 0, none⟩ = some (.int .i64 k1) ∧ w'.cell? ⟨b1, 1, none⟩ = some (.int .i64 n1) ∧ w'.cell? ⟨b1, 2, none⟩ = some (.string t1) ∧ w'.cell? ⟨b1, 3, none⟩ = some (.slice A1 l1.length c1))
        (refine keep4n (W := W7) hG.out (by repeat (first | (with_reducible exact Below.refl _ _) | (with_reducible exact hZ8.out) | (with_reducible exact hZ9.out) | (with_reducible exact hZ10.out) | (with_reducible exact hZ11.out) | (with_reducible exact hZ12.out) | (with_reducible exact hZ13.out) | (with_reducible refine below_drew ?_))))
        (first
          | (go_at_call 13; (with_reducible refine (hFm.out _).mono ?_); rintro e w8 ⟨rfl, hq8⟩; have hZ8 : Aside0 (Below W7.heap.size W7 w8) := ⟨below_step (by repeat (first | (with_reducible exact Below.refl _ _) | (with_reducible refine below_drew ?_))) hq8⟩; clear hq8)
          | (go_at_call 12; (with_reducible refine (hK1.out _ (below_step hY7.out hZ11.out)).mono ?_); rintro e w12 ⟨A12, c12, rfl, hC12, hc12, hq12⟩; have hZ12 : Aside0 (Below W7.heap.size W7 w12) := ⟨below_step hZ11.out hq12⟩; have hN12 := Aside0.mk (hRN.out _ A12 c12 hC12 hc12); clear hq12 hC12 hc12)
          | (go_at_call 12; (with_reducible refine (hK1.out _ (below_step hY7.out hZ8.out)).mono ?_); rintro e w9 ⟨A9, c9, rfl, hC9, hc9, hq9⟩; have hZ9 : Aside0 (Below W7.heap.size W7 w9) := ⟨below_step hZ8.out hq9⟩; have hR9 := Aside0.mk (hRF2.out _ (below_step hY7.out hZ9.out) A9 c9 hC9 hc9); clear hq9 hC9 hc9)
          | (go_at_call 14; (with_reducible refine hR9.out.mono ?_); rintro e w10 ⟨rfl, hq10⟩; have hZ10 : Aside0 (Below W7.heap.size W7 w10) := ⟨below_step hZ9.out hq10⟩; clear hq10)
          | (go_at_call 15; (with_reducible refine (hNd.out _).mono ?_); rintro e w11 ⟨rfl, hq11⟩; have hZ11 : Aside0 (Below W7.heap.size W7 w11) := ⟨below_step hZ10.out hq11⟩; clear hq11)
          | (go_at_call 16; (with_reducible refine hN12.out.mono ?_); rintro e w13 ⟨rfl, hq13⟩; have hZ13 : Aside0 (Below W7.heap.size W7 w13) := ⟨below_step hZ12.out hq13⟩; clear hq13)
          | fail)
      go_wp2
      go_ret
      exact ⟨by simp, below_step hY7.out hZ13.out⟩
    · have hne : X ≠ .none := fun h => by
        have := hvX'.out
        rw [h] at this
        cases this
      have hk0 := hnat.out hne
      clear hne hnat hf1'
      have hv := hvX'.out
      cases X with
      | none => cases hv
      | lit n =>
        have ck := Aside0.mk (fun w => KLit_calls n w)
        obtain rfl : k1 = 1 := hk0
        rw [show (Value.iface p q) = .iface 48 (.agg #[.int .i64 n]) from hv.symm] at hFm hNd ⊢
        obtain ⟨XX, hXX⟩ : ∃ XX, Ex.lit n = XX := ⟨_, rfl⟩
        rw [hXX] at hK1 hRF2 hRN
        clear hv hvX' hXX
        go_region_held3 (fun w' => w'.cell? ⟨b1, 0, none⟩ = some (.int .i64 1))
          (refine (keep4n (W := w5) hB5.out (by repeat (first | (with_reducible exact Below.refl _ _) | (with_reducible exact hX6.out) | (with_reducible refine below_drew ?_)))).1)
          (first | (go_at_call 101; (with_reducible refine (ck.out _).mono ?_); rintro e w6 ⟨rfl, hq6⟩; have hX6 : Aside0 (Below w5.heap.size w5 w6) := ⟨below_step (by repeat (first | (with_reducible exact Below.refl _ _) | (with_reducible refine below_drew ?_))) hq6⟩; clear hq6) | fail)
        go_upto_region 6 with fail
        refine wp_world (fun W7 hW7 => ?_)
        have hb7 : Aside0 (Below w5.heap.size w5 W7) := ⟨by rw [hW7]; repeat (first | (with_reducible exact Below.refl _ _) | (with_reducible exact hX6.out) | (with_reducible refine below_drew ?_) | (with_reducible refine pw_below_drewN ?_ _))⟩
        clear hW7
        have hG := Aside0.mk (blk_below hB5.out hb7.out)
        have hY7 := Aside0.mk (below_step hBW5.out hb7.out)
        obtain ⟨nX, hnX⟩ : ∃ n, toN XX = n := ⟨_, rfl⟩
        rw [hnX] at hK1 hRF2 hRN
        clear hnX
        obtain ⟨k2, n2, t2, l2⟩ := nX
        simp only [] at hK1 hRF2 hRN
        go_region_held3 (fun w' => w'.cell? ⟨b1, 0, none⟩ = some (.int .i64 1) ∧ w'.cell? ⟨b1, 1, none⟩ = some (.int .i64 n1) ∧ w'.cell? ⟨b1, 2, none⟩ = some (.string t1) ∧ w'.cell? ⟨b1, 3, none⟩ = some (.slice A1 l1.length c1))
          (refine keep4n (W := W7) hG.out (by repeat (first | (with_reducible exact Below.refl _ _) | (with_reducible exact hZ8.out) | (with_reducible exact hZ9.out) | (with_reducible exact hZ10.out) | (with_reducible exact hZ11.out) | (with_reducible exact hZ12.out) | (with_reducible exact hZ13.out) | (with_reducible refine below_drew ?_))))
          (first
            | (go_at_call 13; (with_reducible refine (hFm.out _).mono ?_); rintro e w8 ⟨rfl, hq8⟩; have hZ8 : Aside0 (Below W7.heap.size W7 w8) := ⟨below_step (by repeat (first | (with_reducible exact Below.refl _ _) | (with_reducible refine below_drew ?_))) hq8⟩; clear hq8)
            | (go_at_call 12; (with_reducible refine (hK1.out _ (below_step hY7.out hZ11.out)).mono ?_); rintro e w12 ⟨A12, c12, rfl, hC12, hc12, hq12⟩; have hZ12 : Aside0 (Below W7.heap.size W7 w12) := ⟨below_step hZ11.out hq12⟩; have hN12 := Aside0.mk (hRN.out _ A12 c12 hC12 hc12); clear hq12 hC12 hc12)
            | (go_at_call 12; (with_reducible refine (hK1.out _ (below_step hY7.out hZ8.out)).mono ?_); rintro e w9 ⟨A9, c9, rfl, hC9, hc9, hq9⟩; have hZ9 : Aside0 (Below W7.heap.size W7 w9) := ⟨below_step hZ8.out hq9⟩; have hR9 := Aside0.mk (hRF2.out _ (below_step hY7.out hZ9.out) A9 c9 hC9 hc9); clear hq9 hC9 hc9)
            | (go_at_call 14; (with_reducible refine hR9.out.mono ?_); rintro e w10 ⟨rfl, hq10⟩; have hZ10 : Aside0 (Below W7.heap.size W7 w10) := ⟨below_step hZ9.out hq10⟩; clear hq10)
            | (go_at_call 15; (with_reducible refine (hNd.out _).mono ?_); rintro e w11 ⟨rfl, hq11⟩; have hZ11 : Aside0 (Below W7.heap.size W7 w11) := ⟨below_step hZ10.out hq11⟩; clear hq11)
            | (go_at_call 16; (with_reducible refine hN12.out.mono ?_); rintro e w13 ⟨rfl, hq13⟩; have hZ13 : Aside0 (Below W7.heap.size W7 w13) := ⟨below_step hZ12.out hq13⟩; clear hq13)
            | fail)
        go_wp2
        go_ret
        exact ⟨by simp, below_step hY7.out hZ13.out⟩
      | ref s =>
        have ck := Aside0.mk (fun w => KRef_calls s w)
        obtain rfl : k1 = 2 := hk0
        rw [show (Value.iface p q) = .iface 58 (.agg #[.string s]) from hv.symm] at hFm hNd ⊢
        obtain ⟨XX, hXX⟩ : ∃ XX, Ex.ref s = XX := ⟨_, rfl⟩
        rw [hXX] at hK1 hRF2 hRN
        clear hv hvX' hXX
        go_region_held3 (fun w' => w'.cell? ⟨b1, 0, none⟩ = some (.int .i64 2))
          (refine (keep4n (W := w5) hB5.out (by repeat (first | (with_reducible exact Below.refl _ _) | (with_reducible exact hX6.out) | (with_reducible refine below_drew ?_)))).1)
          (first | (go_at_call 103; (with_reducible refine (ck.out _).mono ?_); rintro e w6 ⟨rfl, hq6⟩; have hX6 : Aside0 (Below w5.heap.size w5 w6) := ⟨below_step (by repeat (first | (with_reducible exact Below.refl _ _) | (with_reducible refine below_drew ?_))) hq6⟩; clear hq6) | fail)
        go_upto_region 6 with fail
        refine wp_world (fun W7 hW7 => ?_)
        have hb7 : Aside0 (Below w5.heap.size w5 W7) := ⟨by rw [hW7]; repeat (first | (with_reducible exact Below.refl _ _) | (with_reducible exact hX6.out) | (with_reducible refine below_drew ?_) | (with_reducible refine pw_below_drewN ?_ _))⟩
        clear hW7
        have hG := Aside0.mk (blk_below hB5.out hb7.out)
        have hY7 := Aside0.mk (below_step hBW5.out hb7.out)
        obtain ⟨nX, hnX⟩ : ∃ n, toN XX = n := ⟨_, rfl⟩
        rw [hnX] at hK1 hRF2 hRN
        clear hnX
        obtain ⟨k2, n2, t2, l2⟩ := nX
        simp only [] at hK1 hRF2 hRN
        go_region_held3 (fun w' => w'.cell? ⟨b1, 0, none⟩ = some (.int .i64 2) ∧ w'.cell? ⟨b1, 1, none⟩ = some (.int .i64 n1) ∧ w'.cell? ⟨b1, 2, none⟩ = some (.string t1) ∧ w'.cell? ⟨b1, 3, none⟩ = some (.slice A1 l1.length c1))
          (refine keep4n (W := W7) hG.out (by repeat (first | (with_reducible exact Below.refl _ _) | (with_reducible exact hZ8.out) | (with_reducible exact hZ9.out) | (with_reducible exact hZ10.out) | (with_reducible exact hZ11.out) | (with_reducible exact hZ12.out) | (with_reducible exact hZ13.out) | (with_reducible refine below_drew ?_))))
          (first
            | (go_at_call 13; (with_reducible refine (hFm.out _).mono ?_); rintro e w8 ⟨rfl, hq8⟩; have hZ8 : Aside0 (Below W7.heap.size W7 w8) := ⟨below_step (by repeat (first | (with_reducible exact Below.refl _ _) | (with_reducible refine below_drew ?_))) hq8⟩; clear hq8)
            | (go_at_call 12; (with_reducible refine (hK1.out _ (below_step hY7.out hZ11.out)).mono ?_); rintro e w12 ⟨A12, c12, rfl, hC12, hc12, hq12⟩; have hZ12 : Aside0 (Below W7.heap.size W7 w12) := ⟨below_step hZ11.out hq12⟩; have hN12 := Aside0.mk (hRN.out _ A12 c12 hC12 hc12); clear hq12 hC12 hc12)
            | (go_at_call 12; (with_reducible refine (hK1.out _ (below_step hY7.out hZ8.out)).mono ?_); rintro e w9 ⟨A9, c9, rfl, hC9, hc9, hq9⟩; have hZ9 : Aside0 (Below W7.heap.size W7 w9) := ⟨below_step hZ8.out hq9⟩; have hR9 := Aside0.mk (hRF2.out _ (below_step hY7.out hZ9.out) A9 c9 hC9 hc9); clear hq9 hC9 hc9)
            | (go_at_call 14; (with_reducible refine hR9.out.mono ?_); rintro e w10 ⟨rfl, hq10⟩; have hZ10 : Aside0 (Below W7.heap.size W7 w10) := ⟨below_step hZ9.out hq10⟩; clear hq10)
            | (go_at_call 15; (with_reducible refine (hNd.out _).mono ?_); rintro e w11 ⟨rfl, hq11⟩; have hZ11 : Aside0 (Below W7.heap.size W7 w11) := ⟨below_step hZ10.out hq11⟩; clear hq11)
            | (go_at_call 16; (with_reducible refine hN12.out.mono ?_); rintro e w13 ⟨rfl, hq13⟩; have hZ13 : Aside0 (Below W7.heap.size W7 w13) := ⟨below_step hZ12.out hq13⟩; clear hq13)
            | fail)
        go_wp2
        go_ret
        exact ⟨by simp, below_step hY7.out hZ13.out⟩
      | not x =>
        have ck := Aside0.mk (fun w => KNot_calls x w)
        obtain rfl : k1 = 3 := hk0
        rw [show (Value.iface p q) = .iface 60 (.agg #[enc x]) from hv.symm] at hFm hNd ⊢
        obtain ⟨XX, hXX⟩ : ∃ XX, Ex.not x = XX := ⟨_, rfl⟩
        rw [hXX] at hK1 hRF2 hRN
        clear hv hvX' hXX
        obtain ⟨vx, hvx⟩ : ∃ v, enc x = v := ⟨_, rfl⟩
        have fx : vx = .nilIface ∨ ∃ t u, vx = .iface t u := hvx ▸ enc_form x
        rw [hvx] at ck hFm hNd ⊢
        clear hvx
        rcases fx with rfl | ⟨px, qx, rfl⟩
        all_goals
          go_region_held3 (fun w' => w'.cell? ⟨b1, 0, none⟩ = some (.int .i64 3))
            (refine (keep4n (W := w5) hB5.out (by repeat (first | (with_reducible exact Below.refl _ _) | (with_reducible exact hX6.out) | (with_reducible refine below_drew ?_)))).1)
            (first | (go_at_call 104; (with_reducible refine (ck.out _).mono ?_); rintro e w6 ⟨rfl, hq6⟩; have hX6 : Aside0 (Below w5.heap.size w5 w6) := ⟨below_step (by repeat (first | (with_reducible exact Below.refl _ _) | (with_reducible refine below_drew ?_))) hq6⟩; clear hq6) | fail)
          go_upto_region 6 with fail
          refine wp_world (fun W7 hW7 => ?_)
          have hb7 : Aside0 (Below w5.heap.size w5 W7) := ⟨by rw [hW7]; repeat (first | (with_reducible exact Below.refl _ _) | (with_reducible exact hX6.out) | (with_reducible refine below_drew ?_) | (with_reducible refine pw_below_drewN ?_ _))⟩
          clear hW7
          have hG := Aside0.mk (blk_below hB5.out hb7.out)
          have hY7 := Aside0.mk (below_step hBW5.out hb7.out)
          obtain ⟨nX, hnX⟩ : ∃ n, toN XX = n := ⟨_, rfl⟩
          rw [hnX] at hK1 hRF2 hRN
          clear hnX
          obtain ⟨k2, n2, t2, l2⟩ := nX
          simp only [] at hK1 hRF2 hRN
          go_region_held3 (fun w' => w'.cell? ⟨b1, 0, none⟩ = some (.int .i64 3) ∧ w'.cell? ⟨b1, 1, none⟩ = some (.int .i64 n1) ∧ w'.cell? ⟨b1, 2, none⟩ = some (.string t1) ∧ w'.cell? ⟨b1, 3, none⟩ = some (.slice A1 l1.length c1))
            (refine keep4n (W := W7) hG.out (by repeat (first | (with_reducible exact Below.refl _ _) | (with_reducible exact hZ8.out) | (with_reducible exact hZ9.out) | (with_reducible exact hZ10.out) | (with_reducible exact hZ11.out) | (with_reducible exact hZ12.out) | (with_reducible exact hZ13.out) | (with_reducible refine below_drew ?_))))
            (first
              | (go_at_call 13; (with_reducible refine (hFm.out _).mono ?_); rintro e w8 ⟨rfl, hq8⟩; have hZ8 : Aside0 (Below W7.heap.size W7 w8) := ⟨below_step (by repeat (first | (with_reducible exact Below.refl _ _) | (with_reducible refine below_drew ?_))) hq8⟩; clear hq8)
              | (go_at_call 12; (with_reducible refine (hK1.out _ (below_step hY7.out hZ11.out)).mono ?_); rintro e w12 ⟨A12, c12, rfl, hC12, hc12, hq12⟩; have hZ12 : Aside0 (Below W7.heap.size W7 w12) := ⟨below_step hZ11.out hq12⟩; have hN12 := Aside0.mk (hRN.out _ A12 c12 hC12 hc12); clear hq12 hC12 hc12)
              | (go_at_call 12; (with_reducible refine (hK1.out _ (below_step hY7.out hZ8.out)).mono ?_); rintro e w9 ⟨A9, c9, rfl, hC9, hc9, hq9⟩; have hZ9 : Aside0 (Below W7.heap.size W7 w9) := ⟨below_step hZ8.out hq9⟩; have hR9 := Aside0.mk (hRF2.out _ (below_step hY7.out hZ9.out) A9 c9 hC9 hc9); clear hq9 hC9 hc9)
              | (go_at_call 14; (with_reducible refine hR9.out.mono ?_); rintro e w10 ⟨rfl, hq10⟩; have hZ10 : Aside0 (Below W7.heap.size W7 w10) := ⟨below_step hZ9.out hq10⟩; clear hq10)
              | (go_at_call 15; (with_reducible refine (hNd.out _).mono ?_); rintro e w11 ⟨rfl, hq11⟩; have hZ11 : Aside0 (Below W7.heap.size W7 w11) := ⟨below_step hZ10.out hq11⟩; clear hq11)
              | (go_at_call 16; (with_reducible refine hN12.out.mono ?_); rintro e w13 ⟨rfl, hq13⟩; have hZ13 : Aside0 (Below W7.heap.size W7 w13) := ⟨below_step hZ12.out hq13⟩; clear hq13)
              | fail)
          go_wp2
          go_ret
          exact ⟨by simp, below_step hY7.out hZ13.out⟩
      | neg x =>
        have ck := Aside0.mk (fun w => KNeg_calls x w)
        obtain rfl : k1 = 4 := hk0
        rw [show (Value.iface p q) = .iface 61 (.agg #[enc x]) from hv.symm] at hFm hNd ⊢
        obtain ⟨XX, hXX⟩ : ∃ XX, Ex.neg x = XX := ⟨_, rfl⟩
        rw [hXX] at hK1 hRF2 hRN
        clear hv hvX' hXX
        obtain ⟨vx, hvx⟩ : ∃ v, enc x = v := ⟨_, rfl⟩
        have fx : vx = .nilIface ∨ ∃ t u, vx = .iface t u := hvx ▸ enc_form x
        rw [hvx] at ck hFm hNd ⊢
        clear hvx
        rcases fx with rfl | ⟨px, qx, rfl⟩
        all_goals
          go_region_held3 (fun w' => w'.cell? ⟨b1, 0, none⟩ = some (.int .i64 4))
            (refine (keep4n (W := w5) hB5.out (by repeat (first | (with_reducible exact Below.refl _ _) | (with_reducible exact hX6.out) | (with_reducible refine below_drew ?_)))).1)
            (first | (go_at_call 105; (with_reducible refine (ck.out _).mono ?_); rintro e w6 ⟨rfl, hq6⟩; have hX6 : Aside0 (Below w5.heap.size w5 w6) := ⟨below_step (by repeat (first | (with_reducible exact Below.refl _ _) | (with_reducible refine below_drew ?_))) hq6⟩; clear hq6) | fail)
          go_upto_region 6 with fail
          refine wp_world (fun W7 hW7 => ?_)
          have hb7 : Aside0 (Below w5.heap.size w5 W7) := ⟨by rw [hW7]; repeat (first | (with_reducible exact Below.refl _ _) | (with_reducible exact hX6.out) | (with_reducible refine below_drew ?_) | (with_reducible refine pw_below_drewN ?_ _))⟩
          clear hW7
          have hG := Aside0.mk (blk_below hB5.out hb7.out)
          have hY7 := Aside0.mk (below_step hBW5.out hb7.out)
          obtain ⟨nX, hnX⟩ : ∃ n, toN XX = n := ⟨_, rfl⟩
          rw [hnX] at hK1 hRF2 hRN
          clear hnX
          obtain ⟨k2, n2, t2, l2⟩ := nX
          simp only [] at hK1 hRF2 hRN
          go_region_held3 (fun w' => w'.cell? ⟨b1, 0, none⟩ = some (.int .i64 4) ∧ w'.cell? ⟨b1, 1, none⟩ = some (.int .i64 n1) ∧ w'.cell? ⟨b1, 2, none⟩ = some (.string t1) ∧ w'.cell? ⟨b1, 3, none⟩ = some (.slice A1 l1.length c1))
            (refine keep4n (W := W7) hG.out (by repeat (first | (with_reducible exact Below.refl _ _) | (with_reducible exact hZ8.out) | (with_reducible exact hZ9.out) | (with_reducible exact hZ10.out) | (with_reducible exact hZ11.out) | (with_reducible exact hZ12.out) | (with_reducible exact hZ13.out) | (with_reducible refine below_drew ?_))))
            (first
              | (go_at_call 13; (with_reducible refine (hFm.out _).mono ?_); rintro e w8 ⟨rfl, hq8⟩; have hZ8 : Aside0 (Below W7.heap.size W7 w8) := ⟨below_step (by repeat (first | (with_reducible exact Below.refl _ _) | (with_reducible refine below_drew ?_))) hq8⟩; clear hq8)
              | (go_at_call 12; (with_reducible refine (hK1.out _ (below_step hY7.out hZ11.out)).mono ?_); rintro e w12 ⟨A12, c12, rfl, hC12, hc12, hq12⟩; have hZ12 : Aside0 (Below W7.heap.size W7 w12) := ⟨below_step hZ11.out hq12⟩; have hN12 := Aside0.mk (hRN.out _ A12 c12 hC12 hc12); clear hq12 hC12 hc12)
              | (go_at_call 12; (with_reducible refine (hK1.out _ (below_step hY7.out hZ8.out)).mono ?_); rintro e w9 ⟨A9, c9, rfl, hC9, hc9, hq9⟩; have hZ9 : Aside0 (Below W7.heap.size W7 w9) := ⟨below_step hZ8.out hq9⟩; have hR9 := Aside0.mk (hRF2.out _ (below_step hY7.out hZ9.out) A9 c9 hC9 hc9); clear hq9 hC9 hc9)
              | (go_at_call 14; (with_reducible refine hR9.out.mono ?_); rintro e w10 ⟨rfl, hq10⟩; have hZ10 : Aside0 (Below W7.heap.size W7 w10) := ⟨below_step hZ9.out hq10⟩; clear hq10)
              | (go_at_call 15; (with_reducible refine (hNd.out _).mono ?_); rintro e w11 ⟨rfl, hq11⟩; have hZ11 : Aside0 (Below W7.heap.size W7 w11) := ⟨below_step hZ10.out hq11⟩; clear hq11)
              | (go_at_call 16; (with_reducible refine hN12.out.mono ?_); rintro e w13 ⟨rfl, hq13⟩; have hZ13 : Aside0 (Below W7.heap.size W7 w13) := ⟨below_step hZ12.out hq13⟩; clear hq13)
              | fail)
          go_wp2
          go_ret
          exact ⟨by simp, below_step hY7.out hZ13.out⟩
      | bin o l r =>
        have ck := Aside0.mk (fun w => KBin_calls o l r w)
        obtain rfl : k1 = 5 := hk0
        rw [show (Value.iface p q) = .iface 50 (.agg #[.string o, enc l, enc r]) from hv.symm] at hFm hNd ⊢
        obtain ⟨XX, hXX⟩ : ∃ XX, Ex.bin o l r = XX := ⟨_, rfl⟩
        rw [hXX] at hK1 hRF2 hRN
        clear hv hvX' hXX
        obtain ⟨vl, hvl⟩ : ∃ v, enc l = v := ⟨_, rfl⟩
        have fl : vl = .nilIface ∨ ∃ t u, vl = .iface t u := hvl ▸ enc_form l
        rw [hvl] at ck hFm hNd ⊢
        clear hvl
        obtain ⟨vr, hvr⟩ : ∃ v, enc r = v := ⟨_, rfl⟩
        have fr : vr = .nilIface ∨ ∃ t u, vr = .iface t u := hvr ▸ enc_form r
        rw [hvr] at ck hFm hNd ⊢
        clear hvr
        rcases fl with rfl | ⟨pl, ql, rfl⟩ <;> rcases fr with rfl | ⟨pr, qr, rfl⟩
        all_goals
          go_region_held3 (fun w' => w'.cell? ⟨b1, 0, none⟩ = some (.int .i64 5))
            (refine (keep4n (W := w5) hB5.out (by repeat (first | (with_reducible exact Below.refl _ _) | (with_reducible exact hX6.out) | (with_reducible refine below_drew ?_)))).1)
            (first | (go_at_call 102; (with_reducible refine (ck.out _).mono ?_); rintro e w6 ⟨rfl, hq6⟩; have hX6 : Aside0 (Below w5.heap.size w5 w6) := ⟨below_step (by repeat (first | (with_reducible exact Below.refl _ _) | (with_reducible refine below_drew ?_))) hq6⟩; clear hq6) | fail)
          go_upto_region 6 with fail
          refine wp_world (fun W7 hW7 => ?_)
          have hb7 : Aside0 (Below w5.heap.size w5 W7) := ⟨by rw [hW7]; repeat (first | (with_reducible exact Below.refl _ _) | (with_reducible exact hX6.out) | (with_reducible refine below_drew ?_) | (with_reducible refine pw_below_drewN ?_ _))⟩
          clear hW7
          have hG := Aside0.mk (blk_below hB5.out hb7.out)
          have hY7 := Aside0.mk (below_step hBW5.out hb7.out)
          obtain ⟨nX, hnX⟩ : ∃ n, toN XX = n := ⟨_, rfl⟩
          rw [hnX] at hK1 hRF2 hRN
          clear hnX
          obtain ⟨k2, n2, t2, l2⟩ := nX
          simp only [] at hK1 hRF2 hRN
          go_region_held3 (fun w' => w'.cell? ⟨b1, 0, none⟩ = some (.int .i64 5) ∧ w'.cell? ⟨b1, 1, none⟩ = some (.int .i64 n1) ∧ w'.cell? ⟨b1, 2, none⟩ = some (.string t1) ∧ w'.cell? ⟨b1, 3, none⟩ = some (.slice A1 l1.length c1))
            (refine keep4n (W := W7) hG.out (by repeat (first | (with_reducible exact Below.refl _ _) | (with_reducible exact hZ8.out) | (with_reducible exact hZ9.out) | (with_reducible exact hZ10.out) | (with_reducible exact hZ11.out) | (with_reducible exact hZ12.out) | (with_reducible exact hZ13.out) | (with_reducible refine below_drew ?_))))
            (first
              | (go_at_call 13; (with_reducible refine (hFm.out _).mono ?_); rintro e w8 ⟨rfl, hq8⟩; have hZ8 : Aside0 (Below W7.heap.size W7 w8) := ⟨below_step (by repeat (first | (with_reducible exact Below.refl _ _) | (with_reducible refine below_drew ?_))) hq8⟩; clear hq8)
              | (go_at_call 12; (with_reducible refine (hK1.out _ (below_step hY7.out hZ11.out)).mono ?_); rintro e w12 ⟨A12, c12, rfl, hC12, hc12, hq12⟩; have hZ12 : Aside0 (Below W7.heap.size W7 w12) := ⟨below_step hZ11.out hq12⟩; have hN12 := Aside0.mk (hRN.out _ A12 c12 hC12 hc12); clear hq12 hC12 hc12)
              | (go_at_call 12; (with_reducible refine (hK1.out _ (below_step hY7.out hZ8.out)).mono ?_); rintro e w9 ⟨A9, c9, rfl, hC9, hc9, hq9⟩; have hZ9 : Aside0 (Below W7.heap.size W7 w9) := ⟨below_step hZ8.out hq9⟩; have hR9 := Aside0.mk (hRF2.out _ (below_step hY7.out hZ9.out) A9 c9 hC9 hc9); clear hq9 hC9 hc9)
              | (go_at_call 14; (with_reducible refine hR9.out.mono ?_); rintro e w10 ⟨rfl, hq10⟩; have hZ10 : Aside0 (Below W7.heap.size W7 w10) := ⟨below_step hZ9.out hq10⟩; clear hq10)
              | (go_at_call 15; (with_reducible refine (hNd.out _).mono ?_); rintro e w11 ⟨rfl, hq11⟩; have hZ11 : Aside0 (Below W7.heap.size W7 w11) := ⟨below_step hZ10.out hq11⟩; clear hq11)
              | (go_at_call 16; (with_reducible refine hN12.out.mono ?_); rintro e w13 ⟨rfl, hq13⟩; have hZ13 : Aside0 (Below W7.heap.size W7 w13) := ⟨below_step hZ12.out hq13⟩; clear hq13)
              | fail)
          go_wp2
          go_ret
          exact ⟨by simp, below_step hY7.out hZ13.out⟩
end Go.Proofs.YtdhlbhkpleoicaaDoor.Exp
