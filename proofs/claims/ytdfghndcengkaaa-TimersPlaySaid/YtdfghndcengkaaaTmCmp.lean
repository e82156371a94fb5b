/- What sorts: cmp.Compare of ints and of strings, cmp.Or, Take's closure, walked. -/
import Derived.Test.YtdfghndcengkaaaTmCalls
import Derived.StillTailTactics
import Derived.Laws.Cover1
import Derived.Shelf.SlSortCmp.Whole1
namespace Go.Proofs.Ytdfghndcengkaaa.Tmr
open Go.RowKit Go.Proofs.YtdfghndcengkaaaW.PrintWords Go.Proofs.YtdfghndcengkaaaW.PrintLast Go.Proofs.YtdfghndcengkaaaW.PrintMore Go.Proofs.Ytdfghndcengkaaa.PTimersPlay
open Amap Frm
set_option linter.unusedVariables false
set_option linter.unusedSimpArgs false
set_option linter.unusedSectionVars false
def cmpI (x y : Int) : Int := if x < y then -1 else if y < x then 1 else 0
def cmpS (a b : ByteArray) : Int := if kless a b = true then -1 else if a.toList = b.toList then 0 else 1
def cmpT (T : Tms) (a b : ByteArray) : Int := if cmpI (due T a) (due T b) = 0 then cmpS a b else cmpI (due T a) (due T b)
set_option maxHeartbeats 2000000 in
theorem nanI_calls (x : Int) (w : World) : Calls Try.prog 29 #[.int .i64 x] w fun e w' => e = .returned (.bool false) ∧ w' = w := by
  go_enter Try.func29, Try.ntmps29
  go_wp2
  go_ret
  exact ⟨by simp, rfl⟩
set_option maxHeartbeats 2000000 in
theorem nanS_calls (x : ByteArray) (w : World) : Calls Try.prog 30 #[.string x] w fun e w' => e = .returned (.bool false) ∧ w' = w := by
  go_enter Try.func30, Try.ntmps30
  go_wp2
  go_ret
  exact ⟨by simp, rfl⟩
set_option maxHeartbeats 2000000 in
set_option maxRecDepth 100000 in
theorem CmpI_calls (x y : Int) (w : World) : Calls Try.prog 22 #[.int .i64 x, .int .i64 y] w fun e w' => e = .returned (.int .i64 (cmpI x y)) ∧ w' = w := by
  by_cases h1 : x < y
  · have e : cmpI x y = -1 := by unfold cmpI; rw [if_pos h1]
    rw [e]
    clear e
    have d1 : decide (x < y) = true := decide_eq_true h1
    go_enter Try.func22, Try.ntmps22
    go_wp2_with (first | (go_at_call 29; (with_reducible refine (nanI_calls _ _).mono ?_); rintro e w' ⟨rfl, rfl⟩) | go_in)
    go_ret
    exact ⟨rfl, rfl⟩
  · have d1 : decide (x < y) = false := decide_eq_false h1
    by_cases h2 : y < x
    · have e : cmpI x y = 1 := by unfold cmpI; rw [if_neg h1, if_pos h2]
      rw [e]
      clear e
      have d2 : decide (x > y) = true := decide_eq_true h2
      go_enter Try.func22, Try.ntmps22
      go_wp2_with (first | (go_at_call 29; (with_reducible refine (nanI_calls _ _).mono ?_); rintro e w' ⟨rfl, rfl⟩) | go_in)
      go_ret
      exact ⟨rfl, rfl⟩
    · have e : cmpI x y = 0 := by unfold cmpI; rw [if_neg h1, if_neg h2]
      rw [e]
      clear e
      have d2 : decide (x > y) = false := decide_eq_false h2
      go_enter Try.func22, Try.ntmps22
      go_wp2_with (first | (go_at_call 29; (with_reducible refine (nanI_calls _ _).mono ?_); rintro e w' ⟨rfl, rfl⟩) | go_in)
      go_ret
      exact ⟨rfl, rfl⟩
set_option maxHeartbeats 2000000 in
set_option maxRecDepth 100000 in
theorem CmpS_calls (x y : ByteArray) (w : World) : Calls Try.prog 23 #[.string x, .string y] w fun e w' => e = .returned (.int .i64 (cmpS x y)) ∧ w' = w := by
  have d1 : Op.bytesLess x.toList y.toList = kless x y := rfl
  by_cases h1 : kless x y = true
  · have e : cmpS x y = -1 := by unfold cmpS; rw [if_pos h1]
    rw [e]
    rw [h1] at d1
    clear e h1
    go_enter Try.func23, Try.ntmps23
    go_wp2_with (first | (go_at_call 30; (with_reducible refine (nanS_calls _ _).mono ?_); rintro e w' ⟨rfl, rfl⟩) | go_in)
    go_ret
    exact ⟨rfl, rfl⟩
  · have h1' : kless x y = false := by simpa using h1
    rw [h1'] at d1
    by_cases h2 : x.toList = y.toList
    · have e : cmpS x y = 0 := by unfold cmpS; rw [if_neg h1, if_pos h2]
      rw [e]
      have d2 : (x.toList == y.toList) = true := by simp [h2]
      clear e h1 h1' h2
      go_enter Try.func23, Try.ntmps23
      go_wp2_with (first | (go_at_call 30; (with_reducible refine (nanS_calls _ _).mono ?_); rintro e w' ⟨rfl, rfl⟩) | go_in)
      go_ret
      exact ⟨rfl, rfl⟩
    · have e : cmpS x y = 1 := by unfold cmpS; rw [if_neg h1, if_neg h2]
      rw [e]
      have d2 : (x.toList == y.toList) = false := by simp [h2]
      clear e h1 h1' h2
      go_enter Try.func23, Try.ntmps23
      go_wp2_with (first | (go_at_call 30; (with_reducible refine (nanS_calls _ _).mono ?_); rintro e w' ⟨rfl, rfl⟩) | go_in)
      go_ret
      exact ⟨rfl, rfl⟩
set_option maxHeartbeats 2000000 in
set_option maxRecDepth 100000 in
theorem Or_calls (c1 c2 : Int) (g : Nat) (w : World) (h0 : w.cell? ⟨g, 0, none⟩ = some (.int .i64 c1)) (h1 : w.cell? ⟨g, 1, none⟩ = some (.int .i64 c2)) : Calls Try.prog 21 #[.slice (some ⟨g, 0, none⟩) 2 2] w fun e w' => e = .returned (.int .i64 (if c1 = 0 then c2 else c1)) ∧ w' = w := by
  obtain ⟨r, hr⟩ : ∃ r, (if c1 = 0 then c2 else c1) = r := ⟨_, rfl⟩
  rw [hr]
  have hr' := Aside0.mk hr
  clear hr
  go_enter Try.func21, Try.ntmps21
  go_wp2_with fail
  go_loopg [8] 2 (fun kq v8 w' => ∃ (i : Nat), v8 = .int .i64 (i : Int) ∧ Aside0 (kq + i = 2) ∧ Aside0 (1 ≤ i → c1 = 0) ∧ Aside0 (2 ≤ i → c2 = 0) ∧ w' = w)
  case atStart => exact ⟨0, rfl, ⟨rfl⟩, ⟨fun h => absurd h (by omega)⟩, ⟨fun h => absurd h (by omega)⟩, rfl⟩
  case round =>
    obtain ⟨i, rfl, hk, hz1, hz2, rfl⟩ := hrel
    match i with
    | 0 =>
      by_cases e1 : c1 = 0
      · subst e1
        go_wp2_with fail
        go_roundg 1
        case measure => have := hk.out; omega
        case rel => exact ⟨1, rfl, ⟨rfl⟩, ⟨fun _ => trivial⟩, ⟨fun h => absurd h (by omega)⟩, rfl⟩
      · have e1' : (c1 == 0) = false := by simpa using e1
        have hr2 := hr'.out
        rw [if_neg e1] at hr2
        subst hr2
        clear e1 hr'
        go_wp2_with fail
        go_ret
        exact ⟨rfl, rfl⟩
    | 1 =>
      have e0 := hz1.out (by omega)
      subst e0
      have hr2 := hr'.out
      rw [if_pos rfl] at hr2
      subst hr2
      by_cases e1 : c2 = 0
      · subst e1
        go_wp2_with fail
        go_roundg 0
        case measure => have := hk.out; omega
        case rel => exact ⟨2, rfl, ⟨rfl⟩, ⟨fun _ => trivial⟩, ⟨fun _ => trivial⟩, rfl⟩
      · have e1' : (c2 == 0) = false := by simpa using e1
        clear e1
        go_wp2_with fail
        go_ret
        exact ⟨rfl, rfl⟩
    | 2 =>
      have e0 := hz1.out (by omega)
      subst e0
      have e2 := hz2.out (by omega)
      subst e2
      have hr2 := hr'.out
      rw [if_pos rfl] at hr2
      subst hr2
      go_wp2_with fail
      go_ret
      exact ⟨rfl, rfl⟩
    | i + 3 => exact absurd hk.out (by omega)
set_option maxHeartbeats 2000000 in
set_option maxRecDepth 100000 in
theorem less_calls (T : Tms) (ok : Nat → Prop) (p c : Nat) (w : World) (h : IsT ok w p T) (hc : w.cell? ⟨c, 0, none⟩ = some (.pointer (some ⟨p, 0, none⟩))) (a b : ByteArray) (ha : domS a) (hb : domS b) : Calls Try.prog 20 #[.string a, .string b, .pointer (some ⟨c, 0, none⟩)] w fun e w' => e = .returned (.int .i64 (cmpT T a b)) ∧ ∃ q os', w' = Sort.grow (w.drewN q) os' := by
  obtain ⟨mo, h⟩ := h
  have h := h.below (below_drew (Below.refl _ _))
  have c0 := h.cell
  have hc : w.drew.cell? ⟨c, 0, none⟩ = some (.pointer (some ⟨p, 0, none⟩)) := hc
  have hla := h.look0 ha
  have hlb := h.look0 hb
  obtain ⟨r1, hr1⟩ : ∃ r, cmpI (due T a) (due T b) = r := ⟨_, rfl⟩
  have hI := CmpI_calls (due T a) (due T b) w.drew
  have hS := CmpS_calls a b w.drew
  have hr : cmpT T a b = if r1 = 0 then cmpS a b else r1 := by unfold cmpT; rw [hr1]
  rw [hr1] at hI
  rw [hr]
  obtain ⟨r2, hr2⟩ : ∃ r, cmpS a b = r := ⟨_, rfl⟩
  rw [hr2] at hS ⊢
  clear h hr1 hr2 hr ha hb
  go_enter Try.func20, Try.ntmps20
  go_upto_region 1 with fail
  go_still_tail 16, (by kernel_rfl)
  still_call hI
  repeat still_step
  still_call hS
  repeat still_step
  refine wpStill_nil ?_
  change wpList _ _ _ _ _ w.drew
  go_wp2_with (first | (go_at_call 21; (with_reducible refine (Or_calls r1 r2 _ _ (by simp) (by simp)).mono ?_); rintro e w' ⟨rfl, rfl⟩) | fail)
  all_goals
    go_ret
    exact ⟨rfl, 1, #[_], rfl⟩
end Go.Proofs.Ytdfghndcengkaaa.Tmr
