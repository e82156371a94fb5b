/- Same, walked. -/
import Derived.Test.YtdhlbhkpleoicaaExSameP
namespace Go.Proofs.Ytdhlbhkpleoicaa.Exp
open Go.RowKit Go.Proofs.YtdhlbhkpleoicaaW.PrintWords Go.Proofs.YtdhlbhkpleoicaaW.PrintLast Go.Proofs.YtdhlbhkpleoicaaW.PrintMore Go.Proofs.Ytdhlbhkpleoicaa.PExprSame
open Frm
set_option linter.unusedVariables false
set_option linter.unusedSimpArgs false
attribute [local go_sem] ta_nil_35 ta_35_35 ta_54_35 ta_33_35 ta_47_35 ta_53_35 ta_nil_54 ta_35_54 ta_54_54 ta_33_54 ta_47_54 ta_53_54 ta_nil_33 ta_35_33 ta_54_33 ta_33_33 ta_47_33 ta_53_33 ta_nil_47 ta_35_47 ta_54_47 ta_33_47 ta_47_47 ta_53_47 ta_nil_53 ta_35_53 ta_54_53 ta_33_53 ta_47_53 ta_53_53
def eqL : List Ex → List Ex → Bool
  | [], [] => true
  | x :: l, y :: m => sameE x y && eqL l m
  | _, _ => false
theorem eqL_drop (l m : List Ex) (i : Nat) (h : i < l.length) (h2 : i < m.length) : eqL (l.drop i) (m.drop i) = (sameE (rdOf Ex.none l (i : Int)) (rdOf Ex.none m (i : Int)) && eqL (l.drop (i + 1)) (m.drop (i + 1))) := by
  rw [List.drop_eq_getElem_cons h, List.drop_eq_getElem_cons h2]
  have h3 : rdOf Ex.none l (i : Int) = l[i] := by simp [rdOf, List.getD_eq_getElem?_getD, h]
  have h4 : rdOf Ex.none m (i : Int) = m[i] := by simp [rdOf, List.getD_eq_getElem?_getD, h2]
  rw [h3, h4]
  rfl
theorem kind_not (v : Value) (w : World) : Sem.run Try.prog (method 202 35 (.agg #[v]) "Kind") w = .ok (59, .agg #[v]) w := by kernel_rfl
theorem kind_neg (v : Value) (w : World) : Sem.run Try.prog (method 202 54 (.agg #[v]) "Kind") w = .ok (63, .agg #[v]) w := by kernel_rfl
theorem kind_bin (v u x : Value) (w : World) : Sem.run Try.prog (method 202 33 (.agg #[v, u, x]) "Kind") w = .ok (58, .agg #[v, u, x]) w := by kernel_rfl
set_option maxHeartbeats 1000000 in
theorem KNot_calls (x : Ex) (w : World) : Calls Try.prog 59 #[.agg #[enc x]] w fun e w' => e = .returned (.int .i64 3) ∧ Below w.heap.size w w' := by
  obtain ⟨v, hv⟩ : ∃ v, enc x = v := ⟨_, rfl⟩
  have hv1 : v = .nilIface ∨ ∃ t u, v = .iface t u := hv ▸ enc_form x
  rw [hv]
  clear hv
  rcases hv1 with rfl | ⟨t, u, rfl⟩
  all_goals
    go_enter Try.func59, Try.ntmps59
    go_wp2
    go_ret
    exact ⟨rfl, by repeat (first | exact Below.refl _ _ | refine below_alloc ?_ _)⟩
set_option maxHeartbeats 1000000 in
theorem KNeg_calls (x : Ex) (w : World) : Calls Try.prog 63 #[.agg #[enc x]] w fun e w' => e = .returned (.int .i64 4) ∧ Below w.heap.size w w' := by
  obtain ⟨v, hv⟩ : ∃ v, enc x = v := ⟨_, rfl⟩
  have hv1 : v = .nilIface ∨ ∃ t u, v = .iface t u := hv ▸ enc_form x
  rw [hv]
  clear hv
  rcases hv1 with rfl | ⟨t, u, rfl⟩
  all_goals
    go_enter Try.func63, Try.ntmps63
    go_wp2
    go_ret
    exact ⟨rfl, by repeat (first | exact Below.refl _ _ | refine below_alloc ?_ _)⟩
set_option maxHeartbeats 1000000 in
theorem KBin_calls (op : ByteArray) (x y : Ex) (w : World) : Calls Try.prog 58 #[.agg #[.string op, enc x, enc y]] w fun e w' => e = .returned (.int .i64 5) ∧ Below w.heap.size w w' := by
  obtain ⟨v, hv⟩ : ∃ v, enc x = v := ⟨_, rfl⟩
  obtain ⟨v2, hv2⟩ : ∃ v, enc y = v := ⟨_, rfl⟩
  have hv1 : v = .nilIface ∨ ∃ t u, v = .iface t u := hv ▸ enc_form x
  have hv3 : v2 = .nilIface ∨ ∃ t u, v2 = .iface t u := hv2 ▸ enc_form y
  rw [hv, hv2]
  clear hv hv2
  rcases hv1 with rfl | ⟨t, u, rfl⟩ <;> rcases hv3 with rfl | ⟨t2, u2, rfl⟩
  all_goals
    go_enter Try.func58, Try.ntmps58
    go_wp2
    go_ret
    exact ⟨rfl, by repeat (first | exact Below.refl _ _ | refine below_alloc ?_ _)⟩
set_option maxHeartbeats 2000000 in
set_option maxRecDepth 100000 in
theorem EqualE_calls (n : Nat) (hn : n ≤ 10) (L M : List Ex) (hL : L.length = n) (hM : M.length = n) (A B : Option Addr) (cp dp : Nat) (w : World) (hC : Kd.C kEx w A n L) (hD : Kd.C kEx w B n M)
    (hcl : ∀ W : World, Below w.heap.size w W → ∀ x ∈ L, ∀ y ∈ M, Calls Try.prog 13 #[enc x, enc y] W fun e w' => e = .returned (.bool (sameE x y)) ∧ Below W.heap.size W w') :
    Calls Try.prog 24 #[.slice A n cp, .slice B n dp, .func (.func 13) #[] #[]] w fun e w' => e = .returned (.bool (eqL L M)) ∧ Below w.heap.size w w' := by
  have hC' := Aside0.mk hC
  have hD' := Aside0.mk hD
  have hcl' := Aside0.mk hcl
  have hL' := Aside0.mk hL
  have hM' := Aside0.mk hM
  clear hC hD hcl hL hM
  go_enter Try.func24, Try.ntmps24
  go_wp2_with fail
  go_loopg [17] (n + 1) (fun kq v17 w' => ∃ (i : Nat), v17 = .int .i64 (i : Int) ∧ Aside0 (kq + i = n + 1) ∧ Aside0 (i ≤ n) ∧ Aside0 (eqL (L.drop i) (M.drop i) = eqL L M) ∧ Aside0 (Below w.heap.size w w'))
  case atStart => exact ⟨0, rfl, ⟨by omega⟩, ⟨by omega⟩, ⟨rfl⟩, ⟨Below.refl _ _⟩⟩
  case round =>
    obtain ⟨i, rfl, hk, hi, hx, hB⟩ := hrel
    by_cases hlt : i < n
    · have hd : decide ((i : Int) < (n : Int)) = true := decide_eq_true (by omega)
      have hd' : decide (i < n) = true := decide_eq_true hlt
      cases gk with
      | zero => exact absurd hk.out (by omega)
      | succ k1 =>
        have hlt' := Aside0.mk hlt
        have p1 : 0 ≤ (i : Int) := by omega
        have q1 : (i : Int) < (n : Int) := by omega
        obtain ⟨ad, e1, hy⟩ := at_ex (Kd.C_below hC'.out hB.out) (i : Int) p1 q1
        cases e1
        obtain ⟨bd, e2, hz⟩ := at_ex (Kd.C_below hD'.out hB.out) (i : Int) p1 q1
        cases e2
        rw [show ((i : Int)).toNat = i from by simp] at hy hz
        have hst := eqL_drop L M i (by rw [hL'.out]; exact hlt) (by rw [hM'.out]; exact hlt)
        rw [hx.out] at hst
        have hm : rdOf Ex.none L (i : Int) ∈ L := by
          simp only [rdOf, Int.toNat_natCast, List.getD_eq_getElem?_getD, List.getElem?_eq_getElem (show i < L.length by rw [hL'.out]; exact hlt), Option.getD_some]
          exact List.getElem_mem _
        have hm2 : rdOf Ex.none M (i : Int) ∈ M := by
          simp only [rdOf, Int.toNat_natCast, List.getD_eq_getElem?_getD, List.getElem?_eq_getElem (show i < M.length by rw [hM'.out]; exact hlt), Option.getD_some]
          exact List.getElem_mem _
        have hc := Aside0.mk (hcl'.out wr hB.out _ hm _ hm2)
        obtain ⟨x, hxx⟩ : ∃ x, rdOf Ex.none L (i : Int) = x := ⟨_, rfl⟩
        obtain ⟨y, hyy⟩ : ∃ x, rdOf Ex.none M (i : Int) = x := ⟨_, rfl⟩
        rw [hxx, hyy] at hst hc
        rw [hxx] at hy
        rw [hyy] at hz
        obtain ⟨v, hv⟩ : ∃ v, enc x = v := ⟨_, rfl⟩
        obtain ⟨u, hu⟩ : ∃ v, enc y = v := ⟨_, rfl⟩
        rw [hv, hu] at hc
        rw [hv] at hy
        rw [hu] at hz
        obtain ⟨bb, hbb⟩ : ∃ bb, sameE x y = bb := ⟨_, rfl⟩
        rw [hbb] at hst hc
        have hst' := Aside0.mk hst
        have hv1 : v = .nilIface ∨ ∃ t u, v = .iface t u := hv ▸ enc_form x
        have hv2 : u = .nilIface ∨ ∃ t v, u = .iface t v := hu ▸ enc_form y
        clear hst hm hm2 hxx hyy hv hu hbb
        cases bb with
        | false =>
          have e1' : Aside0 (eqL L M = false) := ⟨by rw [hst'.out]; rfl⟩
          rcases hv1 with rfl | ⟨t1, u1, rfl⟩ <;> rcases hv2 with rfl | ⟨t2, u2, rfl⟩
          all_goals
            go_wp2_with (first
              | (go_at_call 13; (with_reducible refine hc.out.mono ?_); rintro e w1 ⟨rfl, hb1⟩; have hB1 : Aside0 (Below w.heap.size w w1) := ⟨below_step hB.out hb1⟩; clear hb1)
              | fail)
            go_ret
            exact ⟨by rw [e1'.out]; rfl, hB1.out⟩
        | true =>
          have e1' : Aside0 (eqL (L.drop (i + 1)) (M.drop (i + 1)) = eqL L M) := ⟨by rw [hst'.out]; simp⟩
          rcases hv1 with rfl | ⟨t1, u1, rfl⟩ <;> rcases hv2 with rfl | ⟨t2, u2, rfl⟩
          all_goals
            go_wp2_with (first
              | (go_at_call 13; (with_reducible refine hc.out.mono ?_); rintro e w1 ⟨rfl, hb1⟩; have hB1 : Aside0 (Below w.heap.size w w1) := ⟨below_step hB.out hb1⟩; clear hb1)
              | fail)
            go_roundg k1
            case measure => have := hk.out; omega
            case rel => exact ⟨i + 1, by go_num, ⟨by have := hk.out; omega⟩, ⟨by have := hlt'.out; omega⟩, e1', hB1⟩
    · have hd : decide ((i : Int) < (n : Int)) = false := decide_eq_false (by omega)
      have hd' : decide (i < n) = false := decide_eq_false hlt
      obtain rfl : i = n := by have := hi.out; omega
      have e1 : Aside0 (eqL L M = true) := ⟨by rw [← hx.out, List.drop_of_length_le (by rw [hL'.out]; exact Nat.le_refl _), List.drop_of_length_le (by rw [hM'.out]; exact Nat.le_refl _)]; rfl⟩
      go_wp2
      go_ret
      exact ⟨by rw [e1.out]; rfl, hB.out⟩
theorem operands_at (x : Ex) (n : Nat) (hn : (ops x).length = n) (w : World) : Calls Try.prog 23 #[enc x] w fun e w' => ∃ A c, e = .returned (.slice A n c) ∧ Kd.C kEx w' A n (ops x) ∧ Below w.heap.size w w' := by
  refine (operands_calls x w).mono ?_
  rintro e w' ⟨v, rfl, hR, hb⟩
  obtain ⟨A, c, rfl, hc, hC⟩ := Kd.R_reads hR
  rw [hn] at hC ⊢
  exact ⟨A, c, rfl, hC, hb⟩
end Go.Proofs.Ytdhlbhkpleoicaa.Exp
