/- Same, walked: one kind ahead. -/
import Derived.Test.YtdhlbhkpleoicaaExSame
namespace Go.Proofs.Ytdhlbhkpleoicaa.Exp
open Go.RowKit Go.Proofs.YtdhlbhkpleoicaaW.PrintWords Go.Proofs.YtdhlbhkpleoicaaW.PrintLast Go.Proofs.YtdhlbhkpleoicaaW.PrintMore Go.Proofs.Ytdhlbhkpleoicaa.PExprSame
open Frm
set_option linter.unusedVariables false
set_option linter.unusedSimpArgs false
attribute [local go_sem] ta_nil_35 ta_35_35 ta_54_35 ta_33_35 ta_47_35 ta_53_35 ta_nil_54 ta_35_54 ta_54_54 ta_33_54 ta_47_54 ta_53_54 ta_nil_33 ta_35_33 ta_54_33 ta_33_33 ta_47_33 ta_53_33 ta_nil_47 ta_35_47 ta_54_47 ta_33_47 ta_47_47 ta_53_47 ta_nil_53 ta_35_53 ta_54_53 ta_33_53 ta_47_53 ta_53_53
set_option maxHeartbeats 8000000 in
set_option maxRecDepth 100000 in
theorem Same_not (d : Nat) (ih : ∀ (a b : Ex), dep a < d → ∀ w : World, Calls Try.prog 13 #[enc a, enc b] w fun e w' => e = .returned (.bool (sameE a b)) ∧ Below w.heap.size w w') (x1 : Ex) (b : Ex) (hd : dep (Ex.not x1) < d + 1) (w : World) : Calls Try.prog 13 #[enc (Ex.not x1), enc b] w fun e w' => e = .returned (.bool (sameE (Ex.not x1) b)) ∧ Below w.heap.size w w' := by
  have ih' := Aside0.mk ih
  have hd' := Aside0.mk hd
  have cA := Aside0.mk (fun n hn w => operands_at (Ex.not x1) n hn w)
  have cB := Aside0.mk (fun n hn w => operands_at b n hn w)
  clear ih hd
  cases b with
  | none =>
    obtain ⟨r, hr⟩ : ∃ r, sameE (Ex.not x1) (Ex.none) = r := ⟨_, rfl⟩
    rw [hr]
    obtain ⟨v1, hv1⟩ : ∃ z, enc x1 = z := ⟨_, rfl⟩
    have fv1 : v1 = .nilIface ∨ ∃ t u, v1 = .iface t u := hv1 ▸ enc_form x1
    have cA2 : Aside0 (∀ w, Calls Try.prog 23 #[.iface 35 (.agg #[v1])] w fun e w' => ∃ A c, e = .returned (.slice A 1 c) ∧ Kd.C kEx w' A 1 (ops (Ex.not x1)) ∧ Below w.heap.size w w') := ⟨fun w => by rw [← hv1]; exact cA.out 1 rfl w⟩
    have cB2 : Aside0 (∀ w, Calls Try.prog 23 #[.nilIface] w fun e w' => ∃ A c, e = .returned (.slice A 0 c) ∧ Kd.C kEx w' A 0 (ops (Ex.none)) ∧ Below w.heap.size w w') := ⟨fun w => by exact cB.out 0 rfl w⟩
    rw [show enc (Ex.not x1) = .iface 35 (.agg #[v1]) from by rw [← hv1]; rfl, show enc (Ex.none) = .nilIface from by rfl]
    clear cA cB hv1
    go_enter Try.func13, Try.ntmps13
    go_wp2_with (first
      | (go_at_call 23; have hq := hb1'.out; (with_reducible refine (cB2.out _).mono ?_); rintro e w2 ⟨B, c2, rfl, hD, hb2⟩; have hD' := Aside0.mk hD; have hb2' := Aside0.mk hb2; have hB2 := Aside0.mk (below_step hb1'.out hb2); clear hD hb2 hq)
      | (go_at_call 23; (with_reducible refine (cA2.out _).mono ?_); rintro e w1 ⟨A, c1, rfl, hC, hb1⟩; have hC' := Aside0.mk hC; have hb1' := Aside0.mk hb1; clear hC hb1)
      | fail)
    go_ret
    exact ⟨by rw [← hr]; rfl, (by repeat (first | (with_reducible exact hB2.out) | (with_reducible refine below_alloc ?_ _) | (with_reducible refine below_step ?_ hb3.out) | (with_reducible refine below_step ?_ hb4.out) | (with_reducible refine below_step ?_ hb5.out)))⟩
  | lit n2 =>
    obtain ⟨r, hr⟩ : ∃ r, sameE (Ex.not x1) (Ex.lit n2) = r := ⟨_, rfl⟩
    rw [hr]
    obtain ⟨v1, hv1⟩ : ∃ z, enc x1 = z := ⟨_, rfl⟩
    have fv1 : v1 = .nilIface ∨ ∃ t u, v1 = .iface t u := hv1 ▸ enc_form x1
    have cA2 : Aside0 (∀ w, Calls Try.prog 23 #[.iface 35 (.agg #[v1])] w fun e w' => ∃ A c, e = .returned (.slice A 1 c) ∧ Kd.C kEx w' A 1 (ops (Ex.not x1)) ∧ Below w.heap.size w w') := ⟨fun w => by rw [← hv1]; exact cA.out 1 rfl w⟩
    have cB2 : Aside0 (∀ w, Calls Try.prog 23 #[.iface 47 (.agg #[.int .i64 n2])] w fun e w' => ∃ A c, e = .returned (.slice A 0 c) ∧ Kd.C kEx w' A 0 (ops (Ex.lit n2)) ∧ Below w.heap.size w w') := ⟨fun w => by exact cB.out 0 rfl w⟩
    rw [show enc (Ex.not x1) = .iface 35 (.agg #[v1]) from by rw [← hv1]; rfl, show enc (Ex.lit n2) = .iface 47 (.agg #[.int .i64 n2]) from by rfl]
    clear cA cB hv1
    go_enter Try.func13, Try.ntmps13
    go_wp2_with (first
      | (go_at_call 23; have hq := hb1'.out; (with_reducible refine (cB2.out _).mono ?_); rintro e w2 ⟨B, c2, rfl, hD, hb2⟩; have hD' := Aside0.mk hD; have hb2' := Aside0.mk hb2; have hB2 := Aside0.mk (below_step hb1'.out hb2); clear hD hb2 hq)
      | (go_at_call 23; (with_reducible refine (cA2.out _).mono ?_); rintro e w1 ⟨A, c1, rfl, hC, hb1⟩; have hC' := Aside0.mk hC; have hb1' := Aside0.mk hb1; clear hC hb1)
      | fail)
    go_ret
    exact ⟨by rw [← hr]; rfl, (by repeat (first | (with_reducible exact hB2.out) | (with_reducible refine below_alloc ?_ _) | (with_reducible refine below_step ?_ hb3.out) | (with_reducible refine below_step ?_ hb4.out) | (with_reducible refine below_step ?_ hb5.out)))⟩
  | ref s2 =>
    obtain ⟨r, hr⟩ : ∃ r, sameE (Ex.not x1) (Ex.ref s2) = r := ⟨_, rfl⟩
    rw [hr]
    obtain ⟨v1, hv1⟩ : ∃ z, enc x1 = z := ⟨_, rfl⟩
    have fv1 : v1 = .nilIface ∨ ∃ t u, v1 = .iface t u := hv1 ▸ enc_form x1
    have cA2 : Aside0 (∀ w, Calls Try.prog 23 #[.iface 35 (.agg #[v1])] w fun e w' => ∃ A c, e = .returned (.slice A 1 c) ∧ Kd.C kEx w' A 1 (ops (Ex.not x1)) ∧ Below w.heap.size w w') := ⟨fun w => by rw [← hv1]; exact cA.out 1 rfl w⟩
    have cB2 : Aside0 (∀ w, Calls Try.prog 23 #[.iface 53 (.agg #[.string s2])] w fun e w' => ∃ A c, e = .returned (.slice A 0 c) ∧ Kd.C kEx w' A 0 (ops (Ex.ref s2)) ∧ Below w.heap.size w w') := ⟨fun w => by exact cB.out 0 rfl w⟩
    rw [show enc (Ex.not x1) = .iface 35 (.agg #[v1]) from by rw [← hv1]; rfl, show enc (Ex.ref s2) = .iface 53 (.agg #[.string s2]) from by rfl]
    clear cA cB hv1
    go_enter Try.func13, Try.ntmps13
    go_wp2_with (first
      | (go_at_call 23; have hq := hb1'.out; (with_reducible refine (cB2.out _).mono ?_); rintro e w2 ⟨B, c2, rfl, hD, hb2⟩; have hD' := Aside0.mk hD; have hb2' := Aside0.mk hb2; have hB2 := Aside0.mk (below_step hb1'.out hb2); clear hD hb2 hq)
      | (go_at_call 23; (with_reducible refine (cA2.out _).mono ?_); rintro e w1 ⟨A, c1, rfl, hC, hb1⟩; have hC' := Aside0.mk hC; have hb1' := Aside0.mk hb1; clear hC hb1)
      | fail)
    go_ret
    exact ⟨by rw [← hr]; rfl, (by repeat (first | (with_reducible exact hB2.out) | (with_reducible refine below_alloc ?_ _) | (with_reducible refine below_step ?_ hb3.out) | (with_reducible refine below_step ?_ hb4.out) | (with_reducible refine below_step ?_ hb5.out)))⟩
  | not x2 =>
    obtain ⟨r, hr⟩ : ∃ r, sameE (Ex.not x1) (Ex.not x2) = r := ⟨_, rfl⟩
    rw [hr]
    obtain ⟨v1, hv1⟩ : ∃ z, enc x1 = z := ⟨_, rfl⟩
    have fv1 : v1 = .nilIface ∨ ∃ t u, v1 = .iface t u := hv1 ▸ enc_form x1
    obtain ⟨v2, hv2⟩ : ∃ z, enc x2 = z := ⟨_, rfl⟩
    have fv2 : v2 = .nilIface ∨ ∃ t u, v2 = .iface t u := hv2 ▸ enc_form x2
    have cA2 : Aside0 (∀ w, Calls Try.prog 23 #[.iface 35 (.agg #[v1])] w fun e w' => ∃ A c, e = .returned (.slice A 1 c) ∧ Kd.C kEx w' A 1 (ops (Ex.not x1)) ∧ Below w.heap.size w w') := ⟨fun w => by rw [← hv1]; exact cA.out 1 rfl w⟩
    have cB2 : Aside0 (∀ w, Calls Try.prog 23 #[.iface 35 (.agg #[v2])] w fun e w' => ∃ A c, e = .returned (.slice A 1 c) ∧ Kd.C kEx w' A 1 (ops (Ex.not x2)) ∧ Below w.heap.size w w') := ⟨fun w => by rw [← hv2]; exact cB.out 1 rfl w⟩
    have ck1 : Aside0 (∀ w, Calls Try.prog 59 #[.agg #[v1]] w fun e w' => e = .returned (.int .i64 3) ∧ Below w.heap.size w w') := ⟨fun w => by rw [← hv1]; exact KNot_calls x1 w⟩
    have ckm1 := fun w => kind_not v1 w
    have ck2 : Aside0 (∀ w, Calls Try.prog 59 #[.agg #[v2]] w fun e w' => e = .returned (.int .i64 3) ∧ Below w.heap.size w w') := ⟨fun w => by rw [← hv2]; exact KNot_calls x2 w⟩
    have ckm2 := fun w => kind_not v2 w
    rw [show enc (Ex.not x1) = .iface 35 (.agg #[v1]) from by rw [← hv1]; rfl, show enc (Ex.not x2) = .iface 35 (.agg #[v2]) from by rw [← hv2]; rfl]
    clear cA cB hv1 hv2
    go_enter Try.func13, Try.ntmps13
    go_wp2_with (first
      | (go_at_call 23; have hq := hb1'.out; (with_reducible refine (cB2.out _).mono ?_); rintro e w2 ⟨B, c2, rfl, hD, hb2⟩; have hD' := Aside0.mk hD; have hb2' := Aside0.mk hb2; have hB2 := Aside0.mk (below_step hb1'.out hb2); clear hD hb2 hq)
      | (go_at_call 23; (with_reducible refine (cA2.out _).mono ?_); rintro e w1 ⟨A, c1, rfl, hC, hb1⟩; have hC' := Aside0.mk hC; have hb1' := Aside0.mk hb1; clear hC hb1)
      | (go_at_call 59; have hq := hb3'.out; (with_reducible refine (ck2.out _).mono ?_); rintro e w4 ⟨rfl, hb4⟩; have hb4' := Aside0.mk hb4; clear hb4 hq)
      | (go_at_call 59; (with_reducible refine (ck1.out _).mono ?_); rintro e w3 ⟨rfl, hb3⟩; have hb3' := Aside0.mk hb3; clear hb3)
      | (go_at_call 24; (with_reducible refine (EqualE_calls 1 (by omega) _ _ rfl rfl A B c1 c2 _ (Kd.C_below hC'.out (by repeat (first | (with_reducible exact hb2'.out) | (with_reducible refine below_alloc ?_ _) | (with_reducible refine below_step ?_ hb3'.out) | (with_reducible refine below_step ?_ hb4'.out)))) (Kd.C_below hD'.out (by repeat (first | (with_reducible exact Below.refl _ _) | (with_reducible refine below_alloc ?_ _) | (with_reducible refine below_step ?_ hb3'.out) | (with_reducible refine below_step ?_ hb4'.out)))) (fun W _ x hx y hy => ih'.out x y (by have h1 := dep_ops hx; have h2 := hd'.out; omega) W)).mono ?_); rintro e w5 ⟨rfl, hb5⟩; have hb5' := Aside0.mk hb5; clear hb5)
      | fail)
    go_ret
    exact ⟨by rw [← hr]; simp [sameE, eqL, ops], (by repeat (first | (with_reducible exact hB2.out) | (with_reducible refine below_alloc ?_ _) | (with_reducible refine below_step ?_ hb3'.out) | (with_reducible refine below_step ?_ hb4'.out) | (with_reducible refine below_step ?_ hb5'.out)))⟩
  | neg x2 =>
    obtain ⟨r, hr⟩ : ∃ r, sameE (Ex.not x1) (Ex.neg x2) = r := ⟨_, rfl⟩
    rw [hr]
    obtain ⟨v1, hv1⟩ : ∃ z, enc x1 = z := ⟨_, rfl⟩
    have fv1 : v1 = .nilIface ∨ ∃ t u, v1 = .iface t u := hv1 ▸ enc_form x1
    obtain ⟨v2, hv2⟩ : ∃ z, enc x2 = z := ⟨_, rfl⟩
    have fv2 : v2 = .nilIface ∨ ∃ t u, v2 = .iface t u := hv2 ▸ enc_form x2
    have cA2 : Aside0 (∀ w, Calls Try.prog 23 #[.iface 35 (.agg #[v1])] w fun e w' => ∃ A c, e = .returned (.slice A 1 c) ∧ Kd.C kEx w' A 1 (ops (Ex.not x1)) ∧ Below w.heap.size w w') := ⟨fun w => by rw [← hv1]; exact cA.out 1 rfl w⟩
    have cB2 : Aside0 (∀ w, Calls Try.prog 23 #[.iface 54 (.agg #[v2])] w fun e w' => ∃ A c, e = .returned (.slice A 1 c) ∧ Kd.C kEx w' A 1 (ops (Ex.neg x2)) ∧ Below w.heap.size w w') := ⟨fun w => by rw [← hv2]; exact cB.out 1 rfl w⟩
    have ck1 : Aside0 (∀ w, Calls Try.prog 59 #[.agg #[v1]] w fun e w' => e = .returned (.int .i64 3) ∧ Below w.heap.size w w') := ⟨fun w => by rw [← hv1]; exact KNot_calls x1 w⟩
    have ckm1 := fun w => kind_not v1 w
    have ck2 : Aside0 (∀ w, Calls Try.prog 63 #[.agg #[v2]] w fun e w' => e = .returned (.int .i64 4) ∧ Below w.heap.size w w') := ⟨fun w => by rw [← hv2]; exact KNeg_calls x2 w⟩
    have ckm2 := fun w => kind_neg v2 w
    rw [show enc (Ex.not x1) = .iface 35 (.agg #[v1]) from by rw [← hv1]; rfl, show enc (Ex.neg x2) = .iface 54 (.agg #[v2]) from by rw [← hv2]; rfl]
    clear cA cB hv1 hv2
    go_enter Try.func13, Try.ntmps13
    go_wp2_with (first
      | (go_at_call 23; have hq := hb1'.out; (with_reducible refine (cB2.out _).mono ?_); rintro e w2 ⟨B, c2, rfl, hD, hb2⟩; have hD' := Aside0.mk hD; have hb2' := Aside0.mk hb2; have hB2 := Aside0.mk (below_step hb1'.out hb2); clear hD hb2 hq)
      | (go_at_call 23; (with_reducible refine (cA2.out _).mono ?_); rintro e w1 ⟨A, c1, rfl, hC, hb1⟩; have hC' := Aside0.mk hC; have hb1' := Aside0.mk hb1; clear hC hb1)
      | (go_at_call 63; have hq := hb3'.out; (with_reducible refine (ck2.out _).mono ?_); rintro e w4 ⟨rfl, hb4⟩; have hb4' := Aside0.mk hb4; clear hb4 hq)
      | (go_at_call 59; (with_reducible refine (ck1.out _).mono ?_); rintro e w3 ⟨rfl, hb3⟩; have hb3' := Aside0.mk hb3; clear hb3)
      | fail)
    go_ret
    exact ⟨by rw [← hr]; rfl, (by repeat (first | (with_reducible exact hB2.out) | (with_reducible refine below_alloc ?_ _) | (with_reducible refine below_step ?_ hb3'.out) | (with_reducible refine below_step ?_ hb4'.out) | (with_reducible refine below_step ?_ hb5'.out)))⟩
  | bin o2 x2 y2 =>
    obtain ⟨r, hr⟩ : ∃ r, sameE (Ex.not x1) (Ex.bin o2 x2 y2) = r := ⟨_, rfl⟩
    rw [hr]
    obtain ⟨v1, hv1⟩ : ∃ z, enc x1 = z := ⟨_, rfl⟩
    have fv1 : v1 = .nilIface ∨ ∃ t u, v1 = .iface t u := hv1 ▸ enc_form x1
    obtain ⟨v2, hv2⟩ : ∃ z, enc x2 = z := ⟨_, rfl⟩
    have fv2 : v2 = .nilIface ∨ ∃ t u, v2 = .iface t u := hv2 ▸ enc_form x2
    obtain ⟨u2, hu2⟩ : ∃ z, enc y2 = z := ⟨_, rfl⟩
    have fu2 : u2 = .nilIface ∨ ∃ t u, u2 = .iface t u := hu2 ▸ enc_form y2
    have cA2 : Aside0 (∀ w, Calls Try.prog 23 #[.iface 35 (.agg #[v1])] w fun e w' => ∃ A c, e = .returned (.slice A 1 c) ∧ Kd.C kEx w' A 1 (ops (Ex.not x1)) ∧ Below w.heap.size w w') := ⟨fun w => by rw [← hv1]; exact cA.out 1 rfl w⟩
    have cB2 : Aside0 (∀ w, Calls Try.prog 23 #[.iface 33 (.agg #[.string o2, v2, u2])] w fun e w' => ∃ A c, e = .returned (.slice A 2 c) ∧ Kd.C kEx w' A 2 (ops (Ex.bin o2 x2 y2)) ∧ Below w.heap.size w w') := ⟨fun w => by rw [← hv2, ← hu2]; exact cB.out 2 rfl w⟩
    rw [show enc (Ex.not x1) = .iface 35 (.agg #[v1]) from by rw [← hv1]; rfl, show enc (Ex.bin o2 x2 y2) = .iface 33 (.agg #[.string o2, v2, u2]) from by rw [← hv2, ← hu2]; rfl]
    clear cA cB hv1 hv2 hu2
    go_enter Try.func13, Try.ntmps13
    go_wp2_with (first
      | (go_at_call 23; have hq := hb1'.out; (with_reducible refine (cB2.out _).mono ?_); rintro e w2 ⟨B, c2, rfl, hD, hb2⟩; have hD' := Aside0.mk hD; have hb2' := Aside0.mk hb2; have hB2 := Aside0.mk (below_step hb1'.out hb2); clear hD hb2 hq)
      | (go_at_call 23; (with_reducible refine (cA2.out _).mono ?_); rintro e w1 ⟨A, c1, rfl, hC, hb1⟩; have hC' := Aside0.mk hC; have hb1' := Aside0.mk hb1; clear hC hb1)
      | fail)
    go_ret
    exact ⟨by rw [← hr]; rfl, (by repeat (first | (with_reducible exact hB2.out) | (with_reducible refine below_alloc ?_ _) | (with_reducible refine below_step ?_ hb3.out) | (with_reducible refine below_step ?_ hb4.out) | (with_reducible refine below_step ?_ hb5.out)))⟩
end Go.Proofs.Ytdhlbhkpleoicaa.Exp
