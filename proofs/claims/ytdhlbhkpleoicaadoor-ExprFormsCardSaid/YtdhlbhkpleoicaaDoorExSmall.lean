/- Sizes, and awake. -/
import Derived.Test.YtdhlbhkpleoicaaDoorExTheirs
namespace Go.Proofs.YtdhlbhkpleoicaaDoor.Exp
open Go.RowKit Go.Proofs.YtdhlbhkpleoicaaDoorW.PrintWords Go.Proofs.YtdhlbhkpleoicaaDoorW.PrintLast Go.Proofs.YtdhlbhkpleoicaaDoorW.PrintMore Go.Proofs.YtdhlbhkpleoicaaDoor.PExprEvals
open Frm
set_option linter.unusedVariables false
set_option linter.unusedSimpArgs false
/-- Rows that are no longer than a row can be, down to a depth. -/
def okN : Nat → S24 → Prop
  | 0, _ => True
  | n + 1, x => x.f3.length ≤ 9223372036854775807 ∧ ∀ y ∈ x.f3, okN n y
theorem mem_at {l : List S24} {y : S24} (h : y ∈ l) : ∃ i : Nat, i < l.length ∧ rd_T24 l (i : Int) = y := by
  obtain ⟨i, hi⟩ := List.getElem?_of_mem h
  have hl := (List.getElem?_eq_some_iff.1 hi).1
  exact ⟨i, hl, by simp [rd_T24, List.getD_eq_getElem?_getD, hi]⟩
theorem okN_C : ∀ (n : Nat) (x : S24) (w : World) (A : Option Addr), Kd.C k24 w A x.f3.length x.f3 → okN n x
  | 0, _, _, _, _ => trivial
  | n + 1, x, w, A, hC => by
    refine ⟨?_, fun y hy => ?_⟩
    · have := hC.2.1
      omega
    · obtain ⟨i, hi, hr⟩ := mem_at hy
      obtain ⟨ad, A3, c3, _, _, _, _, _, _, hC3⟩ := at_T24 hC (i : Int) (by omega) (by omega)
      rw [hr] at hC3
      exact okN_C n y w A3 hC3
theorem awake_ev : evl [] (.bin sPlus (.lit 2) (.lit 3)) = (5, 0) := by decide +kernel
set_option maxHeartbeats 1000000 in
set_option maxRecDepth 100000 in
theorem awake_calls (w : World) : Calls Tryd.prog 6 #[] w fun e w' => e = .returned (.bool true) ∧ Below w.heap.size w w' := by
  have hE : Aside0 (∀ w, Calls Tryd.prog 9 #[.iface 50 (.agg #[.string ⟨#[43]⟩, .iface 48 (.agg #[.int .i64 2]), .iface 48 (.agg #[.int .i64 3])]), .slice none 0 0] w fun e w' => e = .returned (.tuple #[.int .i64 5, .int .i64 0]) ∧ Below w.heap.size w w') := ⟨fun w => by
    have h := Eval_calls (.bin sPlus (.lit 2) (.lit 3)) [] (by simp) none 0 w ⟨rfl, by decide, fun h0 => absurd h0 (by simp)⟩ (by simp)
    rw [awake_ev] at h
    exact h⟩
  go_enter Tryd.func6, Tryd.ntmps6
  go_wp2_with (first | (go_at_call 9; (with_reducible refine (hE.out _).mono ?_); rintro e w1 ⟨rfl, hb1⟩; have hb1' := Aside0.mk hb1; clear hb1) | fail)
  go_ret
  exact ⟨rfl, hb1'.out⟩
def fewL : List S46 → Nat → Bool
  | [], _ => true
  | x :: r, i => if 200 ≤ i then false else if 1000 < x.f0.size then false else fewL r (i + 1)
theorem fewL_drop (l : List S46) (i : Nat) (h : i < l.length) : fewL (l.drop i) i = if 200 ≤ i then false else if 1000 < (rd_T46 l (i : Int)).f0.size then false else fewL (l.drop (i + 1)) (i + 1) := by
  rw [List.drop_eq_getElem_cons h]
  have : rd_T46 l (i : Int) = l[i] := by simp [rd_T46, List.getD_eq_getElem?_getD, h]
  rw [this]
  rfl
set_option maxHeartbeats 1000000 in
set_option maxRecDepth 100000 in
theorem few_calls (L : List S46) (A : Option Addr) (c : Nat) (w : World) (hC : Kd.C k46 w A L.length L) :
    Calls Tryd.prog 8 #[.slice A L.length c] w fun e w' => e = .returned (.bool (fewL L 0)) ∧ Drawn0 w w' := by
  have hC' := Aside0.mk hC
  clear hC
  have hl : L.length ≤ 9223372036854775807 := hC'.out.2.1
  go_enter Tryd.func8, Tryd.ntmps8
  go_wp2_with fail
  go_loopg [6] (L.length + 1) (fun kq v6 w' => ∃ (i m : Nat), v6 = .int .i64 (i : Int) ∧ Aside0 (kq + i = L.length + 1) ∧ Aside0 (i ≤ L.length) ∧ Aside0 (fewL (L.drop i) i = fewL L 0) ∧ w' = w.drewN m)
  case atStart => exact ⟨0, 0, rfl, ⟨by omega⟩, ⟨by omega⟩, ⟨rfl⟩, rfl⟩
  case round =>
    obtain ⟨i, m, rfl, hk, hi, hx, rfl⟩ := hrel
    by_cases hlt : i < L.length
    · have hd : decide ((i : Int) < (L.length : Int)) = true := decide_eq_true (by omega)
      have hd' : decide (i < L.length) = true := decide_eq_true hlt
      cases gk with
      | zero => exact absurd hk.out (by omega)
      | succ k1 =>
        have hlt' := Aside0.mk hlt
        have p1 : 0 ≤ (i : Int) := by omega
        have q1 : (i : Int) < (L.length : Int) := by omega
        obtain ⟨ad, e1, y0, y1⟩ := at_T46 hC'.out (i : Int) p1 q1
        cases e1
        rw [show ((i : Int)).toNat = i from by simp] at y0 y1
        have hst := fewL_drop L i hlt
        rw [hx.out] at hst
        obtain ⟨⟨xs, xn⟩, hxx⟩ : ∃ x, rd_T46 L (i : Int) = x := ⟨_, rfl⟩
        rw [hxx] at hst y0 y1
        simp only [] at hst y0 y1
        have hst' := Aside0.mk hst
        clear hst hxx
        by_cases h0 : 200 ≤ i
        · have d0 : decide ((200 : Int) ≤ (i : Int)) = true := decide_eq_true (by omega)
          have d0' : decide (200 ≤ i) = true := decide_eq_true h0
          have e1 : Aside0 (fewL L 0 = false) := ⟨by rw [hst'.out, if_pos h0]⟩
          go_wp2
          go_ret
          exact ⟨by rw [e1.out]; rfl, ⟨_, rfl⟩⟩
        · have d0 : decide ((200 : Int) ≤ (i : Int)) = false := decide_eq_false (by omega)
          have d0' : decide (200 ≤ i) = false := decide_eq_false h0
          by_cases h1 : 1000 < xs.size
          · have d1 : decide ((1000 : Int) < (xs.size : Int)) = true := decide_eq_true (by omega)
            have d1' : decide (1000 < xs.size) = true := decide_eq_true h1
            have e1 : Aside0 (fewL L 0 = false) := ⟨by rw [hst'.out, if_neg h0, if_pos h1]⟩
            go_wp2
            go_ret
            exact ⟨by rw [e1.out]; rfl, ⟨_, rfl⟩⟩
          · have d1 : decide ((1000 : Int) < (xs.size : Int)) = false := decide_eq_false (by omega)
            have d1' : decide (1000 < xs.size) = false := decide_eq_false h1
            have e1 : Aside0 (fewL (L.drop (i + 1)) (i + 1) = fewL L 0) := ⟨by rw [hst'.out, if_neg h0, if_neg h1]⟩
            go_wp2
            go_roundg k1
            case measure => have := hk.out; omega
            case rel => exact ⟨i + 1, _, by go_num, ⟨by have := hk.out; omega⟩, ⟨by have := hlt'.out; omega⟩, e1, rfl⟩
    · have hd : decide ((i : Int) < (L.length : Int)) = false := decide_eq_false (by omega)
      have hd' : decide (i < L.length) = false := decide_eq_false hlt
      obtain rfl : i = L.length := by have := hi.out; omega
      have e1 : Aside0 (fewL L 0 = true) := ⟨by rw [← hx.out, List.drop_length]; rfl⟩
      go_wp2
      go_ret
      exact ⟨by rw [e1.out]; rfl, ⟨_, rfl⟩⟩
end Go.Proofs.YtdhlbhkpleoicaaDoor.Exp
