/- The disk: a new one; how many bytes there are, of none and of one segment. -/
import Derived.Test.YtnplnelhodnonaaDsk
namespace Go.Proofs.Ytnplnelhodnonaa.Dsk
open Go.RowKit Go.Proofs.YtnplnelhodnonaaW.PrintWords Go.Proofs.YtnplnelhodnonaaW.PrintLast Go.Proofs.YtnplnelhodnonaaW.PrintMore Go.Proofs.Ytnplnelhodnonaa.PDiskNil
open Amap Frm
set_option linter.unusedVariables false
set_option linter.unusedSimpArgs false
def ek (x : Int) : Value := .int .i64 x
def ep (g : Nat) : Value := .pointer (some ⟨g, 0, none⟩)
def domI (x : Int) : Prop := (Lit.int .i64 x).wf = true
theorem encI : Enc Try.prog 3 ek domI where
  law := Go.Maps.int_keyed Try.underlying3
  key := fun {x} hx => ⟨_, Go.Maps.keyOf_int_mk Try.underlying3 hx⟩
  inj := by
    intro x y h
    unfold ek at h
    injection h
theorem one_entry {w : World} {m g : Nat} {x : Int} (h : MapIs ek ep domI w m [(x, g)]) : ∃ e clock, w.heap[m]? = some (.map #[e] clock) ∧ e.key = ek x ∧ e.val = ep g ∧ e.born < clock := by
  obtain ⟨es, clock, hb, he, _, _, hs⟩ := h
  obtain ⟨l⟩ := es
  cases l with
  | nil => simp at he
  | cons e l =>
    cases l with
    | nil =>
      simp at he
      exact ⟨e, clock, hb, he.1, he.2, hs.1 e (by simp)⟩
    | cons e' l => simp at he
theorem no_entry {w : World} {m : Nat} (h : MapIs ek ep domI w m ([] : List (Int × Nat))) : ∃ clock, w.heap[m]? = some (.map #[] clock) := by
  obtain ⟨es, clock, hb, he, _, _, hs⟩ := h
  obtain ⟨l⟩ := es
  cases l with
  | nil => exact ⟨clock, hb⟩
  | cons e l => simp at he
theorem next_none (w : World) (ty : TypeId) (m clock : Nat) (seen : Array Nat) (es : Array MapEntry) (hb : w.heap[m]? = some (.map es clock)) (hold : ∀ x ∈ es.toList, x.born < clock) (hl : leftOf es seen = #[]) :
    (Instr.next (.pointer (some ⟨w.heap.size, 0, none⟩)) false ty).run Try.prog (w.alloc (.mapIter (some m) clock seen clock)) = .ok (.tuple #[.bool false]) (w.alloc (.mapIter (some m) clock seen clock)) := by
  rcases run_next_map (P := Try.prog) w ty m clock clock seen es clock hb hold (Nat.le_refl _) with h | ⟨e, he, _⟩
  · exact h.2
  · rw [hl] at he
    cases he
theorem next_one (w : World) (ty : TypeId) (m clock : Nat) (e : MapEntry) (hb : w.heap[m]? = some (.map #[e] clock)) (hold : e.born < clock) :
    (Instr.next (.pointer (some ⟨w.heap.size, 0, none⟩)) false ty).run Try.prog (w.alloc (.mapIter (some m) clock #[] clock)) = .ok (.tuple #[.bool true, e.key, e.val]) (w.alloc (.mapIter (some m) clock #[e.born] clock)) := by
  have hlt : m < w.heap.size := blk_lt hb
  have hb' : (w.alloc (.mapIter (some m) clock #[] clock)).heap[m]? = some (.map #[e] clock) := by rw [heap_alloc_old w _ hlt, hb]
  have hset : ∀ o' : Obj, (setObj w.heap.size o').run Try.prog (w.alloc (.mapIter (some m) clock #[] clock)) = .ok () (w.alloc o') := fun o' => by
    simp only [setObj, Sem.run]
    rw [heap_alloc_new]
    show Result.ok () ({ w.alloc (.mapIter (some m) clock #[] clock) with heap := (w.heap.push (.mapIter (some m) clock #[] clock)).setIfInBounds w.heap.size o' } : World) = _
    have hp : (w.heap.push (.mapIter (some m) clock #[] clock)).setIfInBounds w.heap.size o' = w.heap.push o' := by
      apply Array.toList_inj.1
      simp
    rw [hp]
    rfl
  simp only [Instr.next, getObj, Sem.run_bind, Sem.run, heap_alloc_new, hb', Result.andThen, next_test_false #[] #[e] clock clock (by simpa using hold) (Nat.le_refl _), Bool.false_eq_true, if_false]
  simp [choose, Sem.run, Question.forced, hold, hset, Result.andThen]
set_option maxHeartbeats 1000000 in
theorem New_calls (w : World) : Calls Try.prog 12 #[.int .i64 100] w fun e w' => e = .returned (ep (w.heap.size + 1)) ∧ w' = (w.alloc (.map #[] 0)).alloc (.cells #[.map (some w.heap.size), .int .i64 100, .int .i64 0, .bool false, .bool false] 79) := by
  have hmm := @run_makeMap Try.prog
  go_enter Try.func12, Try.ntmps12
  go_wp2
  go_ret
  exact ⟨rfl, rfl⟩
set_option maxHeartbeats 2000000 in
set_option maxRecDepth 100000 in
theorem Used_0 (p m : Nat) (r l : Int) (f d : Bool) (w : World) (hp : w.heap[p]? = some (.cells #[.map (some m), .int .i64 r, .int .i64 l, .bool f, .bool d] 79 (0, 0))) (hm : MapIs ek ep domI w m []) :
    Calls Try.prog 27 #[ep p] w fun e w' => e = .returned (.int .i64 0) ∧ Below w.heap.size w w' := by
  obtain ⟨clock, hb⟩ := no_entry hm
  have c0 : w.cell? ⟨p, 0, none⟩ = some (.map (some m)) := (blk_cell hp 0).trans rfl
  have hr := run_range_map (P := Try.prog) w 77 3 86 m #[] clock Try.underlying77 hb
  have hx := fun ty => next_none w ty m clock #[] #[] hb (by simp) rfl
  have hb' := Aside0.mk hb
  clear hm hp hb
  unfold ep
  go_enter Try.func27, Try.ntmps27
  go_wp2_with fail
  go_loopg [3] 1 (fun kq v3 w' => v3 = .int .i64 0 ∧ w' = w.alloc (.mapIter (some m) clock #[] clock))
  case atStart => exact ⟨rfl, rfl⟩
  case round =>
    obtain ⟨rfl, rfl⟩ := hrel
    go_wp2
    go_ret
    exact ⟨rfl, below_alloc (Below.refl _ _) _⟩
set_option maxHeartbeats 2000000 in
set_option maxRecDepth 100000 in
theorem Used_1 (p m g n : Nat) (x r l s : Int) (f d : Bool) (A : Option Addr) (c : Nat) (w : World) (hn : n ≤ 1000000) (hp : w.heap[p]? = some (.cells #[.map (some m), .int .i64 r, .int .i64 l, .bool f, .bool d] 79 (0, 0))) (hm : MapIs ek ep domI w m [(x, g)])
    (hg : w.heap[g]? = some (.cells #[.slice A n c, .int .i64 s] 91 (0, 0))) :
    Calls Try.prog 27 #[ep p] w fun e w' => e = .returned (.int .i64 n) ∧ Below w.heap.size w w' := by
  obtain ⟨e, clock, hb, hk, hv, hs⟩ := one_entry hm
  have c0 : w.cell? ⟨p, 0, none⟩ = some (.map (some m)) := (blk_cell hp 0).trans rfl
  have g0 : w.cell? ⟨g, 0, none⟩ = some (.slice A n c) := (blk_cell hg 0).trans rfl
  have hr := run_range_map (P := Try.prog) w 77 3 86 m #[e] clock Try.underlying77 hb
  have hx := fun ty => next_one w ty m clock e hb hs
  have hy := fun ty => next_none w ty m clock #[e.born] #[e] hb (by simpa using hs) (by simp [leftOf])
  have hen := run_entry_map (P := Try.prog) w m clock #[] #[e] clock e hb (by simp) (by simp)
  rw [hk, hv] at hx hen
  have hen' : (Instr.entry (.pointer (some ⟨w.heap.size, 0, none⟩))).run Try.prog (w.alloc (.mapIter (some m) clock #[e.born] clock)) = .ok (.tuple #[ek x, ep g]) (w.alloc (.mapIter (some m) clock #[e.born] clock)) := hen
  have hw : IntKind.i64.wrap (0 + (n : Int)) = (n : Int) := by simp [IntKind.wrap, IntKind.signed, IntKind.bits]; omega
  have hw2 : IntKind.i64.wrap (n : Int) = (n : Int) := by simp [IntKind.wrap, IntKind.signed, IntKind.bits]; omega
  unfold ep at hx hen'
  unfold ek at hx hen'
  have hb' := Aside0.mk hb
  obtain ⟨bn, hbn⟩ : ∃ b, e.born = b := ⟨_, rfl⟩
  rw [hbn] at hx hy hen'
  have g1 : (w.alloc (.mapIter (some m) clock #[bn] clock)).cell? ⟨g, 0, none⟩ = some (.slice A n c) := (blk_cell (blk_alloc hg _) 0).trans rfl
  clear hm hp hb hg hk hv hs hen hbn hb'
  unfold ep
  go_enter Try.func27, Try.ntmps27
  go_wp2_with fail
  go_loopg [3] 2 (fun kq v3 w' => (kq = 2 ∧ v3 = .int .i64 0 ∧ w' = w.alloc (.mapIter (some m) clock #[] clock)) ∨ (kq = 1 ∧ v3 = .int .i64 n ∧ w' = w.alloc (.mapIter (some m) clock #[bn] clock)))
  case atStart => exact .inl ⟨rfl, rfl, rfl⟩
  case round =>
    rcases hrel with ⟨hk, rfl, rfl⟩ | ⟨hk, rfl, rfl⟩
    · cases gk with
      | zero => cases hk
      | succ k1 =>
        have hk' := Aside0.mk hk
        clear hk
        go_wp2
        go_roundg k1
        case measure => exact Nat.lt_succ_self _
        case rel => exact .inr ⟨by have := hk'.out; omega, by simp [hw, hw2], rfl⟩
    · clear hk
      go_wp2
      go_ret
      exact ⟨rfl, below_alloc (Below.refl _ _) _⟩
end Go.Proofs.Ytnplnelhodnonaa.Dsk
