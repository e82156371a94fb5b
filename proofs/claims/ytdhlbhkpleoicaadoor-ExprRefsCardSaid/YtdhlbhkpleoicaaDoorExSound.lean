/- Whether an expression is sound, and formed. -/
import Derived.Test.YtdhlbhkpleoicaaDoorExName
import Derived.Deep.RegionHeld3
import Derived.Deep.DeepCutAuto
namespace Go.Proofs.YtdhlbhkpleoicaaDoor.Exp
open Go.RowKit Go.Proofs.YtdhlbhkpleoicaaDoorW.PrintWords Go.Proofs.YtdhlbhkpleoicaaDoorW.PrintLast Go.Proofs.YtdhlbhkpleoicaaDoorW.PrintMore Go.Proofs.YtdhlbhkpleoicaaDoor.PExprEvals
set_option linter.unusedVariables false
set_option linter.unusedSimpArgs false
def opNames : List ByteArray := [(⟨#[43]⟩ : ByteArray), (⟨#[45]⟩ : ByteArray), (⟨#[42]⟩ : ByteArray), (⟨#[60]⟩ : ByteArray), (⟨#[60, 61]⟩ : ByteArray), (⟨#[61, 61]⟩ : ByteArray), (⟨#[33, 61]⟩ : ByteArray), (⟨#[38, 38]⟩ : ByteArray), (⟨#[124, 124]⟩ : ByteArray)]
def isOp (s : ByteArray) : Bool := opNames.any (fun o => decide (o = s))
theorem bytes_iff (a b : ByteArray) : a.toList = b.toList ↔ a = b :=
  ⟨fun h => by
    rw [ByteArray.toList_eq, ByteArray.toList_eq] at h
    exact ByteArray.ext (Array.ext' h), fun h => by rw [h]⟩
theorem index_l0 (s : ByteArray) (l : List ByteArray) (hl : l.length ≤ 1000) : ∀ (d i : Nat), l.length ≤ i + d → i ≤ l.length → ∃ r : Int, (decide (r ≥ 0) = (l.drop i).any (fun o => decide (o = s))) ∧ ∀ k, d < k → slices_Index_string_string.l0 k l s (l.length : Int) (i : Int) = some r
  | d, i, h1, h2 => by
    by_cases hlt : i < l.length
    · cases d with
      | zero => omega
      | succ d =>
        have hdr : l.drop i = l[i] :: l.drop (i + 1) := List.drop_eq_getElem_cons hlt
        by_cases he : l[i] = s
        · refine ⟨(i : Int), ?_, fun k hk => ?_⟩
          · rw [hdr]
            have : decide ((i : Int) ≥ 0) = true := decide_eq_true (by omega)
            rw [this, List.any_cons, decide_eq_true he]
            rfl
          · obtain ⟨k, rfl⟩ : ∃ m, k = m + 1 := ⟨k - 1, by omega⟩
            have hq : rdOf ByteArray.empty l (i : Int) = l[i] := by simp [rdOf, List.getD_eq_getElem?_getD, hlt]
            simp only [slices_Index_string_string.l0]
            rw [if_pos (by omega), if_pos (by omega), if_pos (by omega), hq, if_pos ((bytes_iff _ _).2 he.symm)]
        · obtain ⟨r, hr, hf⟩ := index_l0 s l hl d (i + 1) (by omega) (by omega)
          refine ⟨r, ?_, fun k hk => ?_⟩
          · rw [hr, hdr, List.any_cons, decide_eq_false he, Bool.false_or]
          · obtain ⟨k, rfl⟩ : ∃ m, k = m + 1 := ⟨k - 1, by omega⟩
            have hw : wrap64 ((i : Int) + 1) = ((i + 1 : Nat) : Int) := by unfold wrap64; omega
            have hq : rdOf ByteArray.empty l (i : Int) = l[i] := by simp [rdOf, List.getD_eq_getElem?_getD, hlt]
            simp only [slices_Index_string_string.l0]
            rw [if_pos (by omega), if_pos (by omega), if_pos (by omega), hq, if_neg (fun h => he ((bytes_iff _ _).1 h).symm), hw]
            exact hf k (by omega)
    · refine ⟨-1, ?_, fun k hk => ?_⟩
      · rw [show i = l.length by omega, List.drop_length]
        rfl
      · obtain ⟨k, rfl⟩ : ∃ m, k = m + 1 := ⟨k - 1, by omega⟩
        simp only [slices_Index_string_string.l0]
        rw [if_neg (by omega)]
termination_by d => d
theorem contains_f (s : ByteArray) : slices_Contains_string_string.f 20 opNames s = some (isOp s) := by
  obtain ⟨r, hr, hf⟩ := index_l0 s opNames (by decide) opNames.length 0 (by omega) (by omega)
  unfold slices_Contains_string_string.f slices_Index_string_string.f
  rw [show ((0 : Nat) : Int) = 0 from rfl] at hf
  rw [hf 20 (by decide)]
  simp only [Option.bind_some, hr, List.drop_zero]
  rfl
def snd : Ex → Int → Bool
  | .lit n, k => decide (0 < k ∧ 0 ≤ n ∧ n ≤ 1000000000)
  | .ref s, k => decide (0 < k) && isName s
  | .not x, k => decide (0 < k) && snd x (wrap64 (k - 1))
  | .neg x, k => decide (0 < k) && snd x (wrap64 (k - 1))
  | .bin op l r, k => isOp op && decide (0 < k) && snd l (wrap64 (k - 1)) && snd r (wrap64 (k - 1))
  | .none, _ => false
def idx (f : Ex → Bool) : List Ex → Nat → Int
  | [], _ => -1
  | x :: r, i => if f x then (i : Int) else idx f r (i + 1)
theorem idx_any (f : Ex → Bool) : ∀ (L : List Ex) (i : Nat), decide (0 ≤ idx f L i) = L.any f
  | [], _ => rfl
  | x :: r, i => by
    unfold idx
    cases hf : f x with
    | true => simp [hf]
    | false => simp [hf, idx_any f r (i + 1)]
theorem idx_drop (f : Ex → Bool) (L : List Ex) (i : Nat) (h : i < L.length) : idx f (L.drop i) i = if f (rdOf Ex.none L (i : Int)) then (i : Int) else idx f (L.drop (i + 1)) (i + 1) := by
  rw [List.drop_eq_getElem_cons h]
  have : rdOf Ex.none L (i : Int) = L[i] := by simp [rdOf, List.getD_eq_getElem?_getD, h]
  rw [this]
  rfl
set_option maxHeartbeats 2000000 in
set_option maxRecDepth 100000 in
theorem IndexE_calls (f : Ex → Bool) (cap : Value) (L : List Ex) (hl : L.length ≤ 1000) (A : Option Addr) (cp : Nat) (w : World) (hC : Kd.C kEx w A L.length L)
    (hcl : ∀ W : World, Below w.heap.size w W → ∀ x ∈ L, Calls Tryd.prog 41 #[enc x, cap] W fun e w' => e = .returned (.bool (f x)) ∧ Below W.heap.size W w') :
    Calls Tryd.prog 54 #[.slice A L.length cp, .func (.func 41) #[] #[cap]] w fun e w' => e = .returned (.int .i64 (idx f L 0)) ∧ Below w.heap.size w w' := by
  have hC' := Aside0.mk hC
  have hcl' := Aside0.mk hcl
  clear hC hcl
  go_enter Tryd.func54, Tryd.ntmps54
  go_wp2_with fail
  go_loopg [8] (L.length + 1) (fun kq v8 w' => ∃ (i : Nat), v8 = .int .i64 (i : Int) ∧ Aside0 (kq + i = L.length + 1) ∧ Aside0 (i ≤ L.length) ∧ Aside0 (idx f (L.drop i) i = idx f L 0) ∧ Aside0 (Below w.heap.size w w'))
  case atStart => exact ⟨0, rfl, ⟨by omega⟩, ⟨by omega⟩, ⟨rfl⟩, ⟨Below.refl _ _⟩⟩
  case round =>
    obtain ⟨i, rfl, hk, hi, hx, hB⟩ := hrel
    by_cases hlt : i < L.length
    · have hd : decide ((i : Int) < (L.length : Int)) = true := decide_eq_true (by omega)
      have hd' : decide (i < L.length) = true := decide_eq_true hlt
      cases gk with
      | zero => exact absurd hk.out (by omega)
      | succ k1 =>
        have hlt' := Aside0.mk hlt
        have p1 : 0 ≤ (i : Int) := by omega
        have q1 : (i : Int) < (L.length : Int) := by omega
        obtain ⟨ad, e1, hy⟩ := at_ex (Kd.C_below hC'.out hB.out) (i : Int) p1 q1
        cases e1
        rw [show ((i : Int)).toNat = i from by simp] at hy
        have hst := idx_drop f L i hlt
        rw [hx.out] at hst
        have hm : rdOf Ex.none L (i : Int) ∈ L := by
          simp only [rdOf, Int.toNat_natCast, List.getD_eq_getElem?_getD, List.getElem?_eq_getElem hlt, Option.getD_some]
          exact List.getElem_mem hlt
        have hc := Aside0.mk (hcl'.out wr hB.out _ hm)
        obtain ⟨x, hxx⟩ : ∃ x, rdOf Ex.none L (i : Int) = x := ⟨_, rfl⟩
        rw [hxx] at hst hc hy
        obtain ⟨v, hv⟩ : ∃ v, enc x = v := ⟨_, rfl⟩
        rw [hv] at hc hy
        obtain ⟨bb, hbb⟩ : ∃ bb, f x = bb := ⟨_, rfl⟩
        rw [hbb] at hst hc
        have hst' := Aside0.mk hst
        have hv1 : v = .nilIface ∨ ∃ t u, v = .iface t u := hv ▸ enc_form x
        clear hst hm hxx hv hbb
        cases bb with
        | true =>
          have e1 := hst'.out
          rw [if_pos rfl] at e1
          have e1' := Aside0.mk e1
          clear e1
          rcases hv1 with rfl | ⟨t, u, rfl⟩
          all_goals
            go_wp2_with (first
              | (go_at_call 41; (with_reducible refine hc.out.mono ?_); rintro e w1 ⟨rfl, hb1⟩; have hB1 : Aside0 (Below w.heap.size w w1) := ⟨below_step hB.out hb1⟩; clear hb1)
              | fail)
            go_ret
            have e1 := e1'.out
            exact ⟨by rw [e1]; rfl, hB1.out⟩
        | false =>
          have e1 := hst'.out
          rw [if_neg (by decide)] at e1
          have e1' := Aside0.mk e1
          clear e1
          rcases hv1 with rfl | ⟨t, u, rfl⟩
          all_goals
            go_wp2_with (first
              | (go_at_call 41; (with_reducible refine hc.out.mono ?_); rintro e w1 ⟨rfl, hb1⟩; have hB1 : Aside0 (Below w.heap.size w w1) := ⟨below_step hB.out hb1⟩; clear hb1)
              | fail)
            go_roundg k1
            case measure => have := hk.out; omega
            case rel => exact ⟨i + 1, by go_num, ⟨by have := hk.out; omega⟩, ⟨by have := hlt'.out; omega⟩, ⟨e1'.out.symm⟩, hB1⟩
    · have hd : decide ((i : Int) < (L.length : Int)) = false := decide_eq_false (by omega)
      have hd' : decide (i < L.length) = false := decide_eq_false hlt
      obtain rfl : i = L.length := by have := hi.out; omega
      have e1 := hx.out
      rw [List.drop_length] at e1
      go_wp2
      go_ret
      exact ⟨by rw [← e1]; rfl, hB.out⟩
set_option maxHeartbeats 1000000 in
set_option maxRecDepth 100000 in
theorem ContainsE_calls (f : Ex → Bool) (cap : Value) (L : List Ex) (hl : L.length ≤ 1000) (A : Option Addr) (cp : Nat) (w : World) (hC : Kd.C kEx w A L.length L)
    (hcl : ∀ W : World, Below w.heap.size w W → ∀ x ∈ L, Calls Tryd.prog 41 #[enc x, cap] W fun e w' => e = .returned (.bool (f x)) ∧ Below W.heap.size W w') :
    Calls Tryd.prog 40 #[.slice A L.length cp, .func (.func 41) #[] #[cap]] w fun e w' => e = .returned (.bool (L.any f)) ∧ Below w.heap.size w w' := by
  have hi := Aside0.mk (IndexE_calls f cap L hl A cp w hC hcl)
  have ha := Aside0.mk (idx_any f L 0)
  obtain ⟨j, hj⟩ : ∃ j, idx f L 0 = j := ⟨_, rfl⟩
  rw [hj] at hi ha
  clear hC hcl hj
  go_enter Tryd.func40, Tryd.ntmps40
  go_wp2_with fail
  refine hi.out.mono ?_
  rintro e w1 ⟨rfl, hb⟩
  have hb' := Aside0.mk hb
  clear hb
  go_wp2
  go_ret
  exact ⟨by rw [← ha.out]; rfl, hb'.out⟩
end Go.Proofs.YtdhlbhkpleoicaaDoor.Exp
