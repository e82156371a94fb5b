/- Same, walked: one kind ahead. -/
import Derived.Test.YtdhlbhkpleoicaaExSame
namespace Go.Proofs.Ytdhlbhkpleoicaa.Exp
open Go.RowKit Go.Proofs.YtdhlbhkpleoicaaW.PrintWords Go.Proofs.YtdhlbhkpleoicaaW.PrintLast Go.Proofs.YtdhlbhkpleoicaaW.PrintMore Go.Proofs.Ytdhlbhkpleoicaa.PExprSame
open Frm
set_option linter.unusedVariables false
set_option linter.unusedSimpArgs false
attribute [local go_sem] ta_nil_35 ta_35_35 ta_54_35 ta_33_35 ta_47_35 ta_53_35 ta_nil_54 ta_35_54 ta_54_54 ta_33_54 ta_47_54 ta_53_54 ta_nil_33 ta_35_33 ta_54_33 ta_33_33 ta_47_33 ta_53_33 ta_nil_47 ta_35_47 ta_54_47 ta_33_47 ta_47_47 ta_53_47 ta_nil_53 ta_35_53 ta_54_53 ta_33_53 ta_47_53 ta_53_53
set_option maxHeartbeats 8000000 in
set_option maxRecDepth 100000 in
theorem Same_none (d : Nat) (ih : ∀ (a b : Ex), dep a < d → ∀ w : World, Calls Try.prog 13 #[enc a, enc b] w fun e w' => e = .returned (.bool (sameE a b)) ∧ Below w.heap.size w w') (b : Ex) (hd : dep (Ex.none) < d + 1) (w : World) : Calls Try.prog 13 #[enc (Ex.none), enc b] w fun e w' => e = .returned (.bool (sameE (Ex.none) b)) ∧ Below w.heap.size w w' := by
  have ih' := Aside0.mk ih
  have hd' := Aside0.mk hd
  have cA := Aside0.mk (fun n hn w => operands_at (Ex.none) n hn w)
  have cB := Aside0.mk (fun n hn w => operands_at b n hn w)
  clear ih hd
  cases b with
  | none =>
    obtain ⟨r, hr⟩ : ∃ r, sameE (Ex.none) (Ex.none) = r := ⟨_, rfl⟩
    rw [hr]
    have cA2 : Aside0 (∀ w, Calls Try.prog 23 #[.nilIface] w fun e w' => ∃ A c, e = .returned (.slice A 0 c) ∧ Kd.C kEx w' A 0 (ops (Ex.none)) ∧ Below w.heap.size w w') := ⟨fun w => by exact cA.out 0 rfl w⟩
    have cB2 : Aside0 (∀ w, Calls Try.prog 23 #[.nilIface] w fun e w' => ∃ A c, e = .returned (.slice A 0 c) ∧ Kd.C kEx w' A 0 (ops (Ex.none)) ∧ Below w.heap.size w w') := ⟨fun w => by exact cB.out 0 rfl w⟩
    rw [show enc Ex.none = .nilIface from rfl]
    clear cA cB
    go_enter Try.func13, Try.ntmps13
    go_wp2_with (first
      | (go_at_call 23; have hq := hb1'.out; (with_reducible refine (cB2.out _).mono ?_); rintro e w2 ⟨B, c2, rfl, hD, hb2⟩; have hD' := Aside0.mk hD; have hb2' := Aside0.mk hb2; have hB2 := Aside0.mk (below_step hb1'.out hb2); clear hD hb2 hq)
      | (go_at_call 23; (with_reducible refine (cA2.out _).mono ?_); rintro e w1 ⟨A, c1, rfl, hC, hb1⟩; have hC' := Aside0.mk hC; have hb1' := Aside0.mk hb1; clear hC hb1)
      | fail)
    go_ret
    exact ⟨by rw [← hr]; rfl, (by repeat (first | (with_reducible exact hB2.out) | (with_reducible refine below_alloc ?_ _) | (with_reducible refine below_step ?_ hb3.out) | (with_reducible refine below_step ?_ hb4.out) | (with_reducible refine below_step ?_ hb5.out)))⟩
  | lit n2 =>
    obtain ⟨r, hr⟩ : ∃ r, sameE (Ex.none) (Ex.lit n2) = r := ⟨_, rfl⟩
    rw [hr]
    have cA2 : Aside0 (∀ w, Calls Try.prog 23 #[.nilIface] w fun e w' => ∃ A c, e = .returned (.slice A 0 c) ∧ Kd.C kEx w' A 0 (ops (Ex.none)) ∧ Below w.heap.size w w') := ⟨fun w => by exact cA.out 0 rfl w⟩
    have cB2 : Aside0 (∀ w, Calls Try.prog 23 #[.iface 47 (.agg #[.int .i64 n2])] w fun e w' => ∃ A c, e = .returned (.slice A 0 c) ∧ Kd.C kEx w' A 0 (ops (Ex.lit n2)) ∧ Below w.heap.size w w') := ⟨fun w => by exact cB.out 0 rfl w⟩
    rw [show enc (Ex.none) = .nilIface from by rfl, show enc (Ex.lit n2) = .iface 47 (.agg #[.int .i64 n2]) from by rfl]
    clear cA cB
    go_enter Try.func13, Try.ntmps13
    go_wp2_with (first
      | (go_at_call 23; have hq := hb1'.out; (with_reducible refine (cB2.out _).mono ?_); rintro e w2 ⟨B, c2, rfl, hD, hb2⟩; have hD' := Aside0.mk hD; have hb2' := Aside0.mk hb2; have hB2 := Aside0.mk (below_step hb1'.out hb2); clear hD hb2 hq)
      | (go_at_call 23; (with_reducible refine (cA2.out _).mono ?_); rintro e w1 ⟨A, c1, rfl, hC, hb1⟩; have hC' := Aside0.mk hC; have hb1' := Aside0.mk hb1; clear hC hb1)
      | fail)
    go_ret
    exact ⟨by rw [← hr]; rfl, (by repeat (first | (with_reducible exact hB2.out) | (with_reducible refine below_alloc ?_ _) | (with_reducible refine below_step ?_ hb3.out) | (with_reducible refine below_step ?_ hb4.out) | (with_reducible refine below_step ?_ hb5.out)))⟩
  | ref s2 =>
    obtain ⟨r, hr⟩ : ∃ r, sameE (Ex.none) (Ex.ref s2) = r := ⟨_, rfl⟩
    rw [hr]
    have cA2 : Aside0 (∀ w, Calls Try.prog 23 #[.nilIface] w fun e w' => ∃ A c, e = .returned (.slice A 0 c) ∧ Kd.C kEx w' A 0 (ops (Ex.none)) ∧ Below w.heap.size w w') := ⟨fun w => by exact cA.out 0 rfl w⟩
    have cB2 : Aside0 (∀ w, Calls Try.prog 23 #[.iface 53 (.agg #[.string s2])] w fun e w' => ∃ A c, e = .returned (.slice A 0 c) ∧ Kd.C kEx w' A 0 (ops (Ex.ref s2)) ∧ Below w.heap.size w w') := ⟨fun w => by exact cB.out 0 rfl w⟩
    rw [show enc (Ex.none) = .nilIface from by rfl, show enc (Ex.ref s2) = .iface 53 (.agg #[.string s2]) from by rfl]
    clear cA cB
    go_enter Try.func13, Try.ntmps13
    go_wp2_with (first
      | (go_at_call 23; have hq := hb1'.out; (with_reducible refine (cB2.out _).mono ?_); rintro e w2 ⟨B, c2, rfl, hD, hb2⟩; have hD' := Aside0.mk hD; have hb2' := Aside0.mk hb2; have hB2 := Aside0.mk (below_step hb1'.out hb2); clear hD hb2 hq)
      | (go_at_call 23; (with_reducible refine (cA2.out _).mono ?_); rintro e w1 ⟨A, c1, rfl, hC, hb1⟩; have hC' := Aside0.mk hC; have hb1' := Aside0.mk hb1; clear hC hb1)
      | fail)
    go_ret
    exact ⟨by rw [← hr]; rfl, (by repeat (first | (with_reducible exact hB2.out) | (with_reducible refine below_alloc ?_ _) | (with_reducible refine below_step ?_ hb3.out) | (with_reducible refine below_step ?_ hb4.out) | (with_reducible refine below_step ?_ hb5.out)))⟩
  | not x2 =>
    obtain ⟨r, hr⟩ : ∃ r, sameE (Ex.none) (Ex.not x2) = r := ⟨_, rfl⟩
    rw [hr]
    obtain ⟨v2, hv2⟩ : ∃ z, enc x2 = z := ⟨_, rfl⟩
    have fv2 : v2 = .nilIface ∨ ∃ t u, v2 = .iface t u := hv2 ▸ enc_form x2
    have cA2 : Aside0 (∀ w, Calls Try.prog 23 #[.nilIface] w fun e w' => ∃ A c, e = .returned (.slice A 0 c) ∧ Kd.C kEx w' A 0 (ops (Ex.none)) ∧ Below w.heap.size w w') := ⟨fun w => by exact cA.out 0 rfl w⟩
    have cB2 : Aside0 (∀ w, Calls Try.prog 23 #[.iface 35 (.agg #[v2])] w fun e w' => ∃ A c, e = .returned (.slice A 1 c) ∧ Kd.C kEx w' A 1 (ops (Ex.not x2)) ∧ Below w.heap.size w w') := ⟨fun w => by rw [← hv2]; exact cB.out 1 rfl w⟩
    rw [show enc (Ex.none) = .nilIface from by rfl, show enc (Ex.not x2) = .iface 35 (.agg #[v2]) from by rw [← hv2]; rfl]
    clear cA cB hv2
    rcases fv2 with rfl | ⟨tv2, wv2, rfl⟩
    all_goals
      go_enter Try.func13, Try.ntmps13
      go_wp2_with (first
        | (go_at_call 23; have hq := hb1'.out; (with_reducible refine (cB2.out _).mono ?_); rintro e w2 ⟨B, c2, rfl, hD, hb2⟩; have hD' := Aside0.mk hD; have hb2' := Aside0.mk hb2; have hB2 := Aside0.mk (below_step hb1'.out hb2); clear hD hb2 hq)
        | (go_at_call 23; (with_reducible refine (cA2.out _).mono ?_); rintro e w1 ⟨A, c1, rfl, hC, hb1⟩; have hC' := Aside0.mk hC; have hb1' := Aside0.mk hb1; clear hC hb1)
        | fail)
      go_ret
      exact ⟨by rw [← hr]; rfl, (by repeat (first | (with_reducible exact hB2.out) | (with_reducible refine below_alloc ?_ _) | (with_reducible refine below_step ?_ hb3.out) | (with_reducible refine below_step ?_ hb4.out) | (with_reducible refine below_step ?_ hb5.out)))⟩
  | neg x2 =>
    obtain ⟨r, hr⟩ : ∃ r, sameE (Ex.none) (Ex.neg x2) = r := ⟨_, rfl⟩
    rw [hr]
    obtain ⟨v2, hv2⟩ : ∃ z, enc x2 = z := ⟨_, rfl⟩
    have fv2 : v2 = .nilIface ∨ ∃ t u, v2 = .iface t u := hv2 ▸ enc_form x2
    have cA2 : Aside0 (∀ w, Calls Try.prog 23 #[.nilIface] w fun e w' => ∃ A c, e = .returned (.slice A 0 c) ∧ Kd.C kEx w' A 0 (ops (Ex.none)) ∧ Below w.heap.size w w') := ⟨fun w => by exact cA.out 0 rfl w⟩
    have cB2 : Aside0 (∀ w, Calls Try.prog 23 #[.iface 54 (.agg #[v2])] w fun e w' => ∃ A c, e = .returned (.slice A 1 c) ∧ Kd.C kEx w' A 1 (ops (Ex.neg x2)) ∧ Below w.heap.size w w') := ⟨fun w => by rw [← hv2]; exact cB.out 1 rfl w⟩
    rw [show enc (Ex.none) = .nilIface from by rfl, show enc (Ex.neg x2) = .iface 54 (.agg #[v2]) from by rw [← hv2]; rfl]
    clear cA cB hv2
    rcases fv2 with rfl | ⟨tv2, wv2, rfl⟩
    all_goals
      go_enter Try.func13, Try.ntmps13
      go_wp2_with (first
        | (go_at_call 23; have hq := hb1'.out; (with_reducible refine (cB2.out _).mono ?_); rintro e w2 ⟨B, c2, rfl, hD, hb2⟩; have hD' := Aside0.mk hD; have hb2' := Aside0.mk hb2; have hB2 := Aside0.mk (below_step hb1'.out hb2); clear hD hb2 hq)
        | (go_at_call 23; (with_reducible refine (cA2.out _).mono ?_); rintro e w1 ⟨A, c1, rfl, hC, hb1⟩; have hC' := Aside0.mk hC; have hb1' := Aside0.mk hb1; clear hC hb1)
        | fail)
      go_ret
      exact ⟨by rw [← hr]; rfl, (by repeat (first | (with_reducible exact hB2.out) | (with_reducible refine below_alloc ?_ _) | (with_reducible refine below_step ?_ hb3.out) | (with_reducible refine below_step ?_ hb4.out) | (with_reducible refine below_step ?_ hb5.out)))⟩
  | bin o2 x2 y2 =>
    obtain ⟨r, hr⟩ : ∃ r, sameE (Ex.none) (Ex.bin o2 x2 y2) = r := ⟨_, rfl⟩
    rw [hr]
    obtain ⟨v2, hv2⟩ : ∃ z, enc x2 = z := ⟨_, rfl⟩
    have fv2 : v2 = .nilIface ∨ ∃ t u, v2 = .iface t u := hv2 ▸ enc_form x2
    obtain ⟨u2, hu2⟩ : ∃ z, enc y2 = z := ⟨_, rfl⟩
    have fu2 : u2 = .nilIface ∨ ∃ t u, u2 = .iface t u := hu2 ▸ enc_form y2
    have cA2 : Aside0 (∀ w, Calls Try.prog 23 #[.nilIface] w fun e w' => ∃ A c, e = .returned (.slice A 0 c) ∧ Kd.C kEx w' A 0 (ops (Ex.none)) ∧ Below w.heap.size w w') := ⟨fun w => by exact cA.out 0 rfl w⟩
    have cB2 : Aside0 (∀ w, Calls Try.prog 23 #[.iface 33 (.agg #[.string o2, v2, u2])] w fun e w' => ∃ A c, e = .returned (.slice A 2 c) ∧ Kd.C kEx w' A 2 (ops (Ex.bin o2 x2 y2)) ∧ Below w.heap.size w w') := ⟨fun w => by rw [← hv2, ← hu2]; exact cB.out 2 rfl w⟩
    rw [show enc (Ex.none) = .nilIface from by rfl, show enc (Ex.bin o2 x2 y2) = .iface 33 (.agg #[.string o2, v2, u2]) from by rw [← hv2, ← hu2]; rfl]
    clear cA cB hv2 hu2
    rcases fv2 with rfl | ⟨tv2, wv2, rfl⟩ <;> rcases fu2 with rfl | ⟨tu2, wu2, rfl⟩
    all_goals
      go_enter Try.func13, Try.ntmps13
      go_wp2_with (first
        | (go_at_call 23; have hq := hb1'.out; (with_reducible refine (cB2.out _).mono ?_); rintro e w2 ⟨B, c2, rfl, hD, hb2⟩; have hD' := Aside0.mk hD; have hb2' := Aside0.mk hb2; have hB2 := Aside0.mk (below_step hb1'.out hb2); clear hD hb2 hq)
        | (go_at_call 23; (with_reducible refine (cA2.out _).mono ?_); rintro e w1 ⟨A, c1, rfl, hC, hb1⟩; have hC' := Aside0.mk hC; have hb1' := Aside0.mk hb1; clear hC hb1)
        | fail)
      go_ret
      exact ⟨by rw [← hr]; rfl, (by repeat (first | (with_reducible exact hB2.out) | (with_reducible refine below_alloc ?_ _) | (with_reducible refine below_step ?_ hb3.out) | (with_reducible refine below_step ?_ hb4.out) | (with_reducible refine below_step ?_ hb5.out)))⟩
set_option maxHeartbeats 8000000 in
set_option maxRecDepth 100000 in
theorem Same_lit (d : Nat) (ih : ∀ (a b : Ex), dep a < d → ∀ w : World, Calls Try.prog 13 #[enc a, enc b] w fun e w' => e = .returned (.bool (sameE a b)) ∧ Below w.heap.size w w') (n1 : Int) (b : Ex) (hd : dep (Ex.lit n1) < d + 1) (w : World) : Calls Try.prog 13 #[enc (Ex.lit n1), enc b] w fun e w' => e = .returned (.bool (sameE (Ex.lit n1) b)) ∧ Below w.heap.size w w' := by
  have ih' := Aside0.mk ih
  have hd' := Aside0.mk hd
  have cA := Aside0.mk (fun n hn w => operands_at (Ex.lit n1) n hn w)
  have cB := Aside0.mk (fun n hn w => operands_at b n hn w)
  clear ih hd
  cases b with
  | none =>
    obtain ⟨r, hr⟩ : ∃ r, sameE (Ex.lit n1) (Ex.none) = r := ⟨_, rfl⟩
    rw [hr]
    have cA2 : Aside0 (∀ w, Calls Try.prog 23 #[.iface 47 (.agg #[.int .i64 n1])] w fun e w' => ∃ A c, e = .returned (.slice A 0 c) ∧ Kd.C kEx w' A 0 (ops (Ex.lit n1)) ∧ Below w.heap.size w w') := ⟨fun w => by exact cA.out 0 rfl w⟩
    have cB2 : Aside0 (∀ w, Calls Try.prog 23 #[.nilIface] w fun e w' => ∃ A c, e = .returned (.slice A 0 c) ∧ Kd.C kEx w' A 0 (ops (Ex.none)) ∧ Below w.heap.size w w') := ⟨fun w => by exact cB.out 0 rfl w⟩
    rw [show enc (Ex.lit n1) = .iface 47 (.agg #[.int .i64 n1]) from by rfl, show enc (Ex.none) = .nilIface from by rfl]
    clear cA cB
    go_enter Try.func13, Try.ntmps13
    go_wp2_with (first
      | (go_at_call 23; have hq := hb1'.out; (with_reducible refine (cB2.out _).mono ?_); rintro e w2 ⟨B, c2, rfl, hD, hb2⟩; have hD' := Aside0.mk hD; have hb2' := Aside0.mk hb2; have hB2 := Aside0.mk (below_step hb1'.out hb2); clear hD hb2 hq)
      | (go_at_call 23; (with_reducible refine (cA2.out _).mono ?_); rintro e w1 ⟨A, c1, rfl, hC, hb1⟩; have hC' := Aside0.mk hC; have hb1' := Aside0.mk hb1; clear hC hb1)
      | fail)
    go_ret
    exact ⟨by rw [← hr]; rfl, (by repeat (first | (with_reducible exact hB2.out) | (with_reducible refine below_alloc ?_ _) | (with_reducible refine below_step ?_ hb3.out) | (with_reducible refine below_step ?_ hb4.out) | (with_reducible refine below_step ?_ hb5.out)))⟩
  | lit n2 =>
    obtain ⟨r, hr⟩ : ∃ r, sameE (Ex.lit n1) (Ex.lit n2) = r := ⟨_, rfl⟩
    rw [hr]
    have cA2 : Aside0 (∀ w, Calls Try.prog 23 #[.iface 47 (.agg #[.int .i64 n1])] w fun e w' => ∃ A c, e = .returned (.slice A 0 c) ∧ Kd.C kEx w' A 0 (ops (Ex.lit n1)) ∧ Below w.heap.size w w') := ⟨fun w => by exact cA.out 0 rfl w⟩
    have cB2 : Aside0 (∀ w, Calls Try.prog 23 #[.iface 47 (.agg #[.int .i64 n2])] w fun e w' => ∃ A c, e = .returned (.slice A 0 c) ∧ Kd.C kEx w' A 0 (ops (Ex.lit n2)) ∧ Below w.heap.size w w') := ⟨fun w => by exact cB.out 0 rfl w⟩
    rw [show enc (Ex.lit n1) = .iface 47 (.agg #[.int .i64 n1]) from by rfl, show enc (Ex.lit n2) = .iface 47 (.agg #[.int .i64 n2]) from by rfl]
    clear cA cB
    by_cases hq : n1 = n2
    · subst hq
      go_enter Try.func13, Try.ntmps13
      go_wp2_with (first
        | (go_at_call 23; have hq := hb1'.out; (with_reducible refine (cB2.out _).mono ?_); rintro e w2 ⟨B, c2, rfl, hD, hb2⟩; have hD' := Aside0.mk hD; have hb2' := Aside0.mk hb2; have hB2 := Aside0.mk (below_step hb1'.out hb2); clear hD hb2 hq)
        | (go_at_call 23; (with_reducible refine (cA2.out _).mono ?_); rintro e w1 ⟨A, c1, rfl, hC, hb1⟩; have hC' := Aside0.mk hC; have hb1' := Aside0.mk hb1; clear hC hb1)
        | fail)
      go_ret
      exact ⟨by rw [← hr]; simp [sameE], (by repeat (first | (with_reducible exact hB2.out) | (with_reducible refine below_alloc ?_ _) | (with_reducible refine below_step ?_ hb3.out) | (with_reducible refine below_step ?_ hb4.out) | (with_reducible refine below_step ?_ hb5.out)))⟩
    · have hq' : (n1 == n2) = false := by simpa using hq
      have hq2 := Aside0.mk hq
      clear hq
      go_enter Try.func13, Try.ntmps13
      go_wp2_with (first
        | (go_at_call 23; have hq := hb1'.out; (with_reducible refine (cB2.out _).mono ?_); rintro e w2 ⟨B, c2, rfl, hD, hb2⟩; have hD' := Aside0.mk hD; have hb2' := Aside0.mk hb2; have hB2 := Aside0.mk (below_step hb1'.out hb2); clear hD hb2 hq)
        | (go_at_call 23; (with_reducible refine (cA2.out _).mono ?_); rintro e w1 ⟨A, c1, rfl, hC, hb1⟩; have hC' := Aside0.mk hC; have hb1' := Aside0.mk hb1; clear hC hb1)
        | fail)
      go_ret
      exact ⟨by rw [← hr]; simp [sameE, hq2.out], (by repeat (first | (with_reducible exact hB2.out) | (with_reducible refine below_alloc ?_ _) | (with_reducible refine below_step ?_ hb3.out) | (with_reducible refine below_step ?_ hb4.out) | (with_reducible refine below_step ?_ hb5.out)))⟩
  | ref s2 =>
    obtain ⟨r, hr⟩ : ∃ r, sameE (Ex.lit n1) (Ex.ref s2) = r := ⟨_, rfl⟩
    rw [hr]
    have cA2 : Aside0 (∀ w, Calls Try.prog 23 #[.iface 47 (.agg #[.int .i64 n1])] w fun e w' => ∃ A c, e = .returned (.slice A 0 c) ∧ Kd.C kEx w' A 0 (ops (Ex.lit n1)) ∧ Below w.heap.size w w') := ⟨fun w => by exact cA.out 0 rfl w⟩
    have cB2 : Aside0 (∀ w, Calls Try.prog 23 #[.iface 53 (.agg #[.string s2])] w fun e w' => ∃ A c, e = .returned (.slice A 0 c) ∧ Kd.C kEx w' A 0 (ops (Ex.ref s2)) ∧ Below w.heap.size w w') := ⟨fun w => by exact cB.out 0 rfl w⟩
    rw [show enc (Ex.lit n1) = .iface 47 (.agg #[.int .i64 n1]) from by rfl, show enc (Ex.ref s2) = .iface 53 (.agg #[.string s2]) from by rfl]
    clear cA cB
    go_enter Try.func13, Try.ntmps13
    go_wp2_with (first
      | (go_at_call 23; have hq := hb1'.out; (with_reducible refine (cB2.out _).mono ?_); rintro e w2 ⟨B, c2, rfl, hD, hb2⟩; have hD' := Aside0.mk hD; have hb2' := Aside0.mk hb2; have hB2 := Aside0.mk (below_step hb1'.out hb2); clear hD hb2 hq)
      | (go_at_call 23; (with_reducible refine (cA2.out _).mono ?_); rintro e w1 ⟨A, c1, rfl, hC, hb1⟩; have hC' := Aside0.mk hC; have hb1' := Aside0.mk hb1; clear hC hb1)
      | fail)
    go_ret
    exact ⟨by rw [← hr]; rfl, (by repeat (first | (with_reducible exact hB2.out) | (with_reducible refine below_alloc ?_ _) | (with_reducible refine below_step ?_ hb3.out) | (with_reducible refine below_step ?_ hb4.out) | (with_reducible refine below_step ?_ hb5.out)))⟩
  | not x2 =>
    obtain ⟨r, hr⟩ : ∃ r, sameE (Ex.lit n1) (Ex.not x2) = r := ⟨_, rfl⟩
    rw [hr]
    obtain ⟨v2, hv2⟩ : ∃ z, enc x2 = z := ⟨_, rfl⟩
    have fv2 : v2 = .nilIface ∨ ∃ t u, v2 = .iface t u := hv2 ▸ enc_form x2
    have cA2 : Aside0 (∀ w, Calls Try.prog 23 #[.iface 47 (.agg #[.int .i64 n1])] w fun e w' => ∃ A c, e = .returned (.slice A 0 c) ∧ Kd.C kEx w' A 0 (ops (Ex.lit n1)) ∧ Below w.heap.size w w') := ⟨fun w => by exact cA.out 0 rfl w⟩
    have cB2 : Aside0 (∀ w, Calls Try.prog 23 #[.iface 35 (.agg #[v2])] w fun e w' => ∃ A c, e = .returned (.slice A 1 c) ∧ Kd.C kEx w' A 1 (ops (Ex.not x2)) ∧ Below w.heap.size w w') := ⟨fun w => by rw [← hv2]; exact cB.out 1 rfl w⟩
    rw [show enc (Ex.lit n1) = .iface 47 (.agg #[.int .i64 n1]) from by rfl, show enc (Ex.not x2) = .iface 35 (.agg #[v2]) from by rw [← hv2]; rfl]
    clear cA cB hv2
    rcases fv2 with rfl | ⟨tv2, wv2, rfl⟩
    all_goals
      go_enter Try.func13, Try.ntmps13
      go_wp2_with (first
        | (go_at_call 23; have hq := hb1'.out; (with_reducible refine (cB2.out _).mono ?_); rintro e w2 ⟨B, c2, rfl, hD, hb2⟩; have hD' := Aside0.mk hD; have hb2' := Aside0.mk hb2; have hB2 := Aside0.mk (below_step hb1'.out hb2); clear hD hb2 hq)
        | (go_at_call 23; (with_reducible refine (cA2.out _).mono ?_); rintro e w1 ⟨A, c1, rfl, hC, hb1⟩; have hC' := Aside0.mk hC; have hb1' := Aside0.mk hb1; clear hC hb1)
        | fail)
      go_ret
      exact ⟨by rw [← hr]; rfl, (by repeat (first | (with_reducible exact hB2.out) | (with_reducible refine below_alloc ?_ _) | (with_reducible refine below_step ?_ hb3.out) | (with_reducible refine below_step ?_ hb4.out) | (with_reducible refine below_step ?_ hb5.out)))⟩
  | neg x2 =>
    obtain ⟨r, hr⟩ : ∃ r, sameE (Ex.lit n1) (Ex.neg x2) = r := ⟨_, rfl⟩
    rw [hr]
    obtain ⟨v2, hv2⟩ : ∃ z, enc x2 = z := ⟨_, rfl⟩
    have fv2 : v2 = .nilIface ∨ ∃ t u, v2 = .iface t u := hv2 ▸ enc_form x2
    have cA2 : Aside0 (∀ w, Calls Try.prog 23 #[.iface 47 (.agg #[.int .i64 n1])] w fun e w' => ∃ A c, e = .returned (.slice A 0 c) ∧ Kd.C kEx w' A 0 (ops (Ex.lit n1)) ∧ Below w.heap.size w w') := ⟨fun w => by exact cA.out 0 rfl w⟩
    have cB2 : Aside0 (∀ w, Calls Try.prog 23 #[.iface 54 (.agg #[v2])] w fun e w' => ∃ A c, e = .returned (.slice A 1 c) ∧ Kd.C kEx w' A 1 (ops (Ex.neg x2)) ∧ Below w.heap.size w w') := ⟨fun w => by rw [← hv2]; exact cB.out 1 rfl w⟩
    rw [show enc (Ex.lit n1) = .iface 47 (.agg #[.int .i64 n1]) from by rfl, show enc (Ex.neg x2) = .iface 54 (.agg #[v2]) from by rw [← hv2]; rfl]
    clear cA cB hv2
    rcases fv2 with rfl | ⟨tv2, wv2, rfl⟩
    all_goals
      go_enter Try.func13, Try.ntmps13
      go_wp2_with (first
        | (go_at_call 23; have hq := hb1'.out; (with_reducible refine (cB2.out _).mono ?_); rintro e w2 ⟨B, c2, rfl, hD, hb2⟩; have hD' := Aside0.mk hD; have hb2' := Aside0.mk hb2; have hB2 := Aside0.mk (below_step hb1'.out hb2); clear hD hb2 hq)
        | (go_at_call 23; (with_reducible refine (cA2.out _).mono ?_); rintro e w1 ⟨A, c1, rfl, hC, hb1⟩; have hC' := Aside0.mk hC; have hb1' := Aside0.mk hb1; clear hC hb1)
        | fail)
      go_ret
      exact ⟨by rw [← hr]; rfl, (by repeat (first | (with_reducible exact hB2.out) | (with_reducible refine below_alloc ?_ _) | (with_reducible refine below_step ?_ hb3.out) | (with_reducible refine below_step ?_ hb4.out) | (with_reducible refine below_step ?_ hb5.out)))⟩
  | bin o2 x2 y2 =>
    obtain ⟨r, hr⟩ : ∃ r, sameE (Ex.lit n1) (Ex.bin o2 x2 y2) = r := ⟨_, rfl⟩
    rw [hr]
    obtain ⟨v2, hv2⟩ : ∃ z, enc x2 = z := ⟨_, rfl⟩
    have fv2 : v2 = .nilIface ∨ ∃ t u, v2 = .iface t u := hv2 ▸ enc_form x2
    obtain ⟨u2, hu2⟩ : ∃ z, enc y2 = z := ⟨_, rfl⟩
    have fu2 : u2 = .nilIface ∨ ∃ t u, u2 = .iface t u := hu2 ▸ enc_form y2
    have cA2 : Aside0 (∀ w, Calls Try.prog 23 #[.iface 47 (.agg #[.int .i64 n1])] w fun e w' => ∃ A c, e = .returned (.slice A 0 c) ∧ Kd.C kEx w' A 0 (ops (Ex.lit n1)) ∧ Below w.heap.size w w') := ⟨fun w => by exact cA.out 0 rfl w⟩
    have cB2 : Aside0 (∀ w, Calls Try.prog 23 #[.iface 33 (.agg #[.string o2, v2, u2])] w fun e w' => ∃ A c, e = .returned (.slice A 2 c) ∧ Kd.C kEx w' A 2 (ops (Ex.bin o2 x2 y2)) ∧ Below w.heap.size w w') := ⟨fun w => by rw [← hv2, ← hu2]; exact cB.out 2 rfl w⟩
    rw [show enc (Ex.lit n1) = .iface 47 (.agg #[.int .i64 n1]) from by rfl, show enc (Ex.bin o2 x2 y2) = .iface 33 (.agg #[.string o2, v2, u2]) from by rw [← hv2, ← hu2]; rfl]
    clear cA cB hv2 hu2
    rcases fv2 with rfl | ⟨tv2, wv2, rfl⟩ <;> rcases fu2 with rfl | ⟨tu2, wu2, rfl⟩
    all_goals
      go_enter Try.func13, Try.ntmps13
      go_wp2_with (first
        | (go_at_call 23; have hq := hb1'.out; (with_reducible refine (cB2.out _).mono ?_); rintro e w2 ⟨B, c2, rfl, hD, hb2⟩; have hD' := Aside0.mk hD; have hb2' := Aside0.mk hb2; have hB2 := Aside0.mk (below_step hb1'.out hb2); clear hD hb2 hq)
        | (go_at_call 23; (with_reducible refine (cA2.out _).mono ?_); rintro e w1 ⟨A, c1, rfl, hC, hb1⟩; have hC' := Aside0.mk hC; have hb1' := Aside0.mk hb1; clear hC hb1)
        | fail)
      go_ret
      exact ⟨by rw [← hr]; rfl, (by repeat (first | (with_reducible exact hB2.out) | (with_reducible refine below_alloc ?_ _) | (with_reducible refine below_step ?_ hb3.out) | (with_reducible refine below_step ?_ hb4.out) | (with_reducible refine below_step ?_ hb5.out)))⟩
set_option maxHeartbeats 8000000 in
set_option maxRecDepth 100000 in
theorem Same_ref (d : Nat) (ih : ∀ (a b : Ex), dep a < d → ∀ w : World, Calls Try.prog 13 #[enc a, enc b] w fun e w' => e = .returned (.bool (sameE a b)) ∧ Below w.heap.size w w') (s1 : ByteArray) (b : Ex) (hd : dep (Ex.ref s1) < d + 1) (w : World) : Calls Try.prog 13 #[enc (Ex.ref s1), enc b] w fun e w' => e = .returned (.bool (sameE (Ex.ref s1) b)) ∧ Below w.heap.size w w' := by
  have ih' := Aside0.mk ih
  have hd' := Aside0.mk hd
  have cA := Aside0.mk (fun n hn w => operands_at (Ex.ref s1) n hn w)
  have cB := Aside0.mk (fun n hn w => operands_at b n hn w)
  clear ih hd
  cases b with
  | none =>
    obtain ⟨r, hr⟩ : ∃ r, sameE (Ex.ref s1) (Ex.none) = r := ⟨_, rfl⟩
    rw [hr]
    have cA2 : Aside0 (∀ w, Calls Try.prog 23 #[.iface 53 (.agg #[.string s1])] w fun e w' => ∃ A c, e = .returned (.slice A 0 c) ∧ Kd.C kEx w' A 0 (ops (Ex.ref s1)) ∧ Below w.heap.size w w') := ⟨fun w => by exact cA.out 0 rfl w⟩
    have cB2 : Aside0 (∀ w, Calls Try.prog 23 #[.nilIface] w fun e w' => ∃ A c, e = .returned (.slice A 0 c) ∧ Kd.C kEx w' A 0 (ops (Ex.none)) ∧ Below w.heap.size w w') := ⟨fun w => by exact cB.out 0 rfl w⟩
    rw [show enc (Ex.ref s1) = .iface 53 (.agg #[.string s1]) from by rfl, show enc (Ex.none) = .nilIface from by rfl]
    clear cA cB
    go_enter Try.func13, Try.ntmps13
    go_wp2_with (first
      | (go_at_call 23; have hq := hb1'.out; (with_reducible refine (cB2.out _).mono ?_); rintro e w2 ⟨B, c2, rfl, hD, hb2⟩; have hD' := Aside0.mk hD; have hb2' := Aside0.mk hb2; have hB2 := Aside0.mk (below_step hb1'.out hb2); clear hD hb2 hq)
      | (go_at_call 23; (with_reducible refine (cA2.out _).mono ?_); rintro e w1 ⟨A, c1, rfl, hC, hb1⟩; have hC' := Aside0.mk hC; have hb1' := Aside0.mk hb1; clear hC hb1)
      | fail)
    go_ret
    exact ⟨by rw [← hr]; rfl, (by repeat (first | (with_reducible exact hB2.out) | (with_reducible refine below_alloc ?_ _) | (with_reducible refine below_step ?_ hb3.out) | (with_reducible refine below_step ?_ hb4.out) | (with_reducible refine below_step ?_ hb5.out)))⟩
  | lit n2 =>
    obtain ⟨r, hr⟩ : ∃ r, sameE (Ex.ref s1) (Ex.lit n2) = r := ⟨_, rfl⟩
    rw [hr]
    have cA2 : Aside0 (∀ w, Calls Try.prog 23 #[.iface 53 (.agg #[.string s1])] w fun e w' => ∃ A c, e = .returned (.slice A 0 c) ∧ Kd.C kEx w' A 0 (ops (Ex.ref s1)) ∧ Below w.heap.size w w') := ⟨fun w => by exact cA.out 0 rfl w⟩
    have cB2 : Aside0 (∀ w, Calls Try.prog 23 #[.iface 47 (.agg #[.int .i64 n2])] w fun e w' => ∃ A c, e = .returned (.slice A 0 c) ∧ Kd.C kEx w' A 0 (ops (Ex.lit n2)) ∧ Below w.heap.size w w') := ⟨fun w => by exact cB.out 0 rfl w⟩
    rw [show enc (Ex.ref s1) = .iface 53 (.agg #[.string s1]) from by rfl, show enc (Ex.lit n2) = .iface 47 (.agg #[.int .i64 n2]) from by rfl]
    clear cA cB
    go_enter Try.func13, Try.ntmps13
    go_wp2_with (first
      | (go_at_call 23; have hq := hb1'.out; (with_reducible refine (cB2.out _).mono ?_); rintro e w2 ⟨B, c2, rfl, hD, hb2⟩; have hD' := Aside0.mk hD; have hb2' := Aside0.mk hb2; have hB2 := Aside0.mk (below_step hb1'.out hb2); clear hD hb2 hq)
      | (go_at_call 23; (with_reducible refine (cA2.out _).mono ?_); rintro e w1 ⟨A, c1, rfl, hC, hb1⟩; have hC' := Aside0.mk hC; have hb1' := Aside0.mk hb1; clear hC hb1)
      | fail)
    go_ret
    exact ⟨by rw [← hr]; rfl, (by repeat (first | (with_reducible exact hB2.out) | (with_reducible refine below_alloc ?_ _) | (with_reducible refine below_step ?_ hb3.out) | (with_reducible refine below_step ?_ hb4.out) | (with_reducible refine below_step ?_ hb5.out)))⟩
  | ref s2 =>
    obtain ⟨r, hr⟩ : ∃ r, sameE (Ex.ref s1) (Ex.ref s2) = r := ⟨_, rfl⟩
    rw [hr]
    have cA2 : Aside0 (∀ w, Calls Try.prog 23 #[.iface 53 (.agg #[.string s1])] w fun e w' => ∃ A c, e = .returned (.slice A 0 c) ∧ Kd.C kEx w' A 0 (ops (Ex.ref s1)) ∧ Below w.heap.size w w') := ⟨fun w => by exact cA.out 0 rfl w⟩
    have cB2 : Aside0 (∀ w, Calls Try.prog 23 #[.iface 53 (.agg #[.string s2])] w fun e w' => ∃ A c, e = .returned (.slice A 0 c) ∧ Kd.C kEx w' A 0 (ops (Ex.ref s2)) ∧ Below w.heap.size w w') := ⟨fun w => by exact cB.out 0 rfl w⟩
    rw [show enc (Ex.ref s1) = .iface 53 (.agg #[.string s1]) from by rfl, show enc (Ex.ref s2) = .iface 53 (.agg #[.string s2]) from by rfl]
    clear cA cB
    by_cases hq : s1 = s2
    · subst hq
      go_enter Try.func13, Try.ntmps13
      go_wp2_with (first
        | (go_at_call 23; have hq := hb1'.out; (with_reducible refine (cB2.out _).mono ?_); rintro e w2 ⟨B, c2, rfl, hD, hb2⟩; have hD' := Aside0.mk hD; have hb2' := Aside0.mk hb2; have hB2 := Aside0.mk (below_step hb1'.out hb2); clear hD hb2 hq)
        | (go_at_call 23; (with_reducible refine (cA2.out _).mono ?_); rintro e w1 ⟨A, c1, rfl, hC, hb1⟩; have hC' := Aside0.mk hC; have hb1' := Aside0.mk hb1; clear hC hb1)
        | fail)
      go_ret
      exact ⟨by rw [← hr]; simp [sameE], (by repeat (first | (with_reducible exact hB2.out) | (with_reducible refine below_alloc ?_ _) | (with_reducible refine below_step ?_ hb3.out) | (with_reducible refine below_step ?_ hb4.out) | (with_reducible refine below_step ?_ hb5.out)))⟩
    · have hq' : (s1.toList == s2.toList) = false := by rw [beq_str]; exact decide_eq_false hq
      have hq2 := Aside0.mk hq
      clear hq
      go_enter Try.func13, Try.ntmps13
      go_wp2_with (first
        | (go_at_call 23; have hq := hb1'.out; (with_reducible refine (cB2.out _).mono ?_); rintro e w2 ⟨B, c2, rfl, hD, hb2⟩; have hD' := Aside0.mk hD; have hb2' := Aside0.mk hb2; have hB2 := Aside0.mk (below_step hb1'.out hb2); clear hD hb2 hq)
        | (go_at_call 23; (with_reducible refine (cA2.out _).mono ?_); rintro e w1 ⟨A, c1, rfl, hC, hb1⟩; have hC' := Aside0.mk hC; have hb1' := Aside0.mk hb1; clear hC hb1)
        | fail)
      go_ret
      exact ⟨by rw [← hr]; simp [sameE, hq2.out], (by repeat (first | (with_reducible exact hB2.out) | (with_reducible refine below_alloc ?_ _) | (with_reducible refine below_step ?_ hb3.out) | (with_reducible refine below_step ?_ hb4.out) | (with_reducible refine below_step ?_ hb5.out)))⟩
  | not x2 =>
    obtain ⟨r, hr⟩ : ∃ r, sameE (Ex.ref s1) (Ex.not x2) = r := ⟨_, rfl⟩
    rw [hr]
    obtain ⟨v2, hv2⟩ : ∃ z, enc x2 = z := ⟨_, rfl⟩
    have fv2 : v2 = .nilIface ∨ ∃ t u, v2 = .iface t u := hv2 ▸ enc_form x2
    have cA2 : Aside0 (∀ w, Calls Try.prog 23 #[.iface 53 (.agg #[.string s1])] w fun e w' => ∃ A c, e = .returned (.slice A 0 c) ∧ Kd.C kEx w' A 0 (ops (Ex.ref s1)) ∧ Below w.heap.size w w') := ⟨fun w => by exact cA.out 0 rfl w⟩
    have cB2 : Aside0 (∀ w, Calls Try.prog 23 #[.iface 35 (.agg #[v2])] w fun e w' => ∃ A c, e = .returned (.slice A 1 c) ∧ Kd.C kEx w' A 1 (ops (Ex.not x2)) ∧ Below w.heap.size w w') := ⟨fun w => by rw [← hv2]; exact cB.out 1 rfl w⟩
    rw [show enc (Ex.ref s1) = .iface 53 (.agg #[.string s1]) from by rfl, show enc (Ex.not x2) = .iface 35 (.agg #[v2]) from by rw [← hv2]; rfl]
    clear cA cB hv2
    rcases fv2 with rfl | ⟨tv2, wv2, rfl⟩
    all_goals
      go_enter Try.func13, Try.ntmps13
      go_wp2_with (first
        | (go_at_call 23; have hq := hb1'.out; (with_reducible refine (cB2.out _).mono ?_); rintro e w2 ⟨B, c2, rfl, hD, hb2⟩; have hD' := Aside0.mk hD; have hb2' := Aside0.mk hb2; have hB2 := Aside0.mk (below_step hb1'.out hb2); clear hD hb2 hq)
        | (go_at_call 23; (with_reducible refine (cA2.out _).mono ?_); rintro e w1 ⟨A, c1, rfl, hC, hb1⟩; have hC' := Aside0.mk hC; have hb1' := Aside0.mk hb1; clear hC hb1)
        | fail)
      go_ret
      exact ⟨by rw [← hr]; rfl, (by repeat (first | (with_reducible exact hB2.out) | (with_reducible refine below_alloc ?_ _) | (with_reducible refine below_step ?_ hb3.out) | (with_reducible refine below_step ?_ hb4.out) | (with_reducible refine below_step ?_ hb5.out)))⟩
  | neg x2 =>
    obtain ⟨r, hr⟩ : ∃ r, sameE (Ex.ref s1) (Ex.neg x2) = r := ⟨_, rfl⟩
    rw [hr]
    obtain ⟨v2, hv2⟩ : ∃ z, enc x2 = z := ⟨_, rfl⟩
    have fv2 : v2 = .nilIface ∨ ∃ t u, v2 = .iface t u := hv2 ▸ enc_form x2
    have cA2 : Aside0 (∀ w, Calls Try.prog 23 #[.iface 53 (.agg #[.string s1])] w fun e w' => ∃ A c, e = .returned (.slice A 0 c) ∧ Kd.C kEx w' A 0 (ops (Ex.ref s1)) ∧ Below w.heap.size w w') := ⟨fun w => by exact cA.out 0 rfl w⟩
    have cB2 : Aside0 (∀ w, Calls Try.prog 23 #[.iface 54 (.agg #[v2])] w fun e w' => ∃ A c, e = .returned (.slice A 1 c) ∧ Kd.C kEx w' A 1 (ops (Ex.neg x2)) ∧ Below w.heap.size w w') := ⟨fun w => by rw [← hv2]; exact cB.out 1 rfl w⟩
    rw [show enc (Ex.ref s1) = .iface 53 (.agg #[.string s1]) from by rfl, show enc (Ex.neg x2) = .iface 54 (.agg #[v2]) from by rw [← hv2]; rfl]
    clear cA cB hv2
    rcases fv2 with rfl | ⟨tv2, wv2, rfl⟩
    all_goals
      go_enter Try.func13, Try.ntmps13
      go_wp2_with (first
        | (go_at_call 23; have hq := hb1'.out; (with_reducible refine (cB2.out _).mono ?_); rintro e w2 ⟨B, c2, rfl, hD, hb2⟩; have hD' := Aside0.mk hD; have hb2' := Aside0.mk hb2; have hB2 := Aside0.mk (below_step hb1'.out hb2); clear hD hb2 hq)
        | (go_at_call 23; (with_reducible refine (cA2.out _).mono ?_); rintro e w1 ⟨A, c1, rfl, hC, hb1⟩; have hC' := Aside0.mk hC; have hb1' := Aside0.mk hb1; clear hC hb1)
        | fail)
      go_ret
      exact ⟨by rw [← hr]; rfl, (by repeat (first | (with_reducible exact hB2.out) | (with_reducible refine below_alloc ?_ _) | (with_reducible refine below_step ?_ hb3.out) | (with_reducible refine below_step ?_ hb4.out) | (with_reducible refine below_step ?_ hb5.out)))⟩
  | bin o2 x2 y2 =>
    obtain ⟨r, hr⟩ : ∃ r, sameE (Ex.ref s1) (Ex.bin o2 x2 y2) = r := ⟨_, rfl⟩
    rw [hr]
    obtain ⟨v2, hv2⟩ : ∃ z, enc x2 = z := ⟨_, rfl⟩
    have fv2 : v2 = .nilIface ∨ ∃ t u, v2 = .iface t u := hv2 ▸ enc_form x2
    obtain ⟨u2, hu2⟩ : ∃ z, enc y2 = z := ⟨_, rfl⟩
    have fu2 : u2 = .nilIface ∨ ∃ t u, u2 = .iface t u := hu2 ▸ enc_form y2
    have cA2 : Aside0 (∀ w, Calls Try.prog 23 #[.iface 53 (.agg #[.string s1])] w fun e w' => ∃ A c, e = .returned (.slice A 0 c) ∧ Kd.C kEx w' A 0 (ops (Ex.ref s1)) ∧ Below w.heap.size w w') := ⟨fun w => by exact cA.out 0 rfl w⟩
    have cB2 : Aside0 (∀ w, Calls Try.prog 23 #[.iface 33 (.agg #[.string o2, v2, u2])] w fun e w' => ∃ A c, e = .returned (.slice A 2 c) ∧ Kd.C kEx w' A 2 (ops (Ex.bin o2 x2 y2)) ∧ Below w.heap.size w w') := ⟨fun w => by rw [← hv2, ← hu2]; exact cB.out 2 rfl w⟩
    rw [show enc (Ex.ref s1) = .iface 53 (.agg #[.string s1]) from by rfl, show enc (Ex.bin o2 x2 y2) = .iface 33 (.agg #[.string o2, v2, u2]) from by rw [← hv2, ← hu2]; rfl]
    clear cA cB hv2 hu2
    rcases fv2 with rfl | ⟨tv2, wv2, rfl⟩ <;> rcases fu2 with rfl | ⟨tu2, wu2, rfl⟩
    all_goals
      go_enter Try.func13, Try.ntmps13
      go_wp2_with (first
        | (go_at_call 23; have hq := hb1'.out; (with_reducible refine (cB2.out _).mono ?_); rintro e w2 ⟨B, c2, rfl, hD, hb2⟩; have hD' := Aside0.mk hD; have hb2' := Aside0.mk hb2; have hB2 := Aside0.mk (below_step hb1'.out hb2); clear hD hb2 hq)
        | (go_at_call 23; (with_reducible refine (cA2.out _).mono ?_); rintro e w1 ⟨A, c1, rfl, hC, hb1⟩; have hC' := Aside0.mk hC; have hb1' := Aside0.mk hb1; clear hC hb1)
        | fail)
      go_ret
      exact ⟨by rw [← hr]; rfl, (by repeat (first | (with_reducible exact hB2.out) | (with_reducible refine below_alloc ?_ _) | (with_reducible refine below_step ?_ hb3.out) | (with_reducible refine below_step ?_ hb4.out) | (with_reducible refine below_step ?_ hb5.out)))⟩
end Go.Proofs.Ytdhlbhkpleoicaa.Exp
