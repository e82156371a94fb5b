/- A step over a map leaves the tape as it was. -/
import Derived.Laws.IdiomRangeMap
import Derived.Test.YtnplnelhodnonaaFrames
namespace Go.Proofs.Ytnplnelhodnonaa.Tape
open Go Go.RowKit
set_option linter.unusedVariables false
set_option linter.unusedSimpArgs false
/-- Nothing here that could turn the tape: no store, no system call. -/
def keeps (P : Program) {α : Type} : Sem α → Prop
  | .pure _ => True
  | .load _ _ k => ∀ v, keeps P (k v)
  | .store _ _ _ _ => False
  | .new _ k => ∀ n, keeps P (k n)
  | .shape _ k => ∀ x, keeps P (k x)
  | .freeze _ _ _ => False
  | .frozen _ k => ∀ b, keeps P (k b)
  | .getObj _ k => ∀ o, keeps P (k o)
  | .setObj _ _ k => keeps P k
  | .choose _ k => ∀ n, keeps P (k n)
  | .sys _ _ => False
  | .program k => keeps P (k P)
  | .mark _ k => keeps P k
  | .halt _ => True
theorem keeps_tape {P : Program} {α : Type} : ∀ (s : Sem α) (w w' : World) (v : α), keeps P s → s.run P w = .ok v w' → w'.tape = w.tape := by
  intro s
  induction s with
  | pure a => intro w w' v _ h; simp only [Sem.run] at h; cases h; rfl
  | load m a k ih =>
    intro w w' v hk h
    simp only [Sem.run] at h
    split at h
    · exact ih _ w w' v (hk _) h
    · split at h
      · exact ih _ w w' v (hk _) h
      · cases h
  | store m a v k ih => intro w w' v hk; cases hk
  | new o k ih => intro w w' v hk h; simp only [Sem.run] at h; have h1 := ih _ _ w' v (hk _) h; exact h1
  | shape r k ih => intro w w' v hk h; simp only [Sem.run] at h; exact (ih _ _ w' v (hk _) h)
  | freeze a n k ih => intro w w' v hk; cases hk
  | frozen a k ih => intro w w' v hk h; simp only [Sem.run] at h; exact (ih _ _ w' v (hk _) h)
  | getObj r k ih =>
    intro w w' v hk h
    simp only [Sem.run] at h
    split at h
    · cases h
    · exact ih _ _ w' v (hk _) h
    · cases h
  | setObj r o k ih =>
    intro w w' v hk h
    simp only [Sem.run] at h
    split at h
    · cases h
    · have h1 := ih _ w' v hk h; exact h1
    · cases h
  | choose q k ih =>
    intro w w' v hk h
    simp only [Sem.run] at h
    split at h
    · exact ih _ _ w' v (hk _) h
    · have h1 := ih _ _ w' v (hk _) h; exact h1
  | sys c k ih => intro w w' v hk; cases hk
  | program k ih => intro w w' v hk h; simp only [Sem.run] at h; exact (ih _ _ w' v hk h)
  | mark m k ih => intro w w' v hk h; simp only [Sem.run] at h; exact (ih _ w' v hk h)
  | halt h => intro w w' v _ h; simp only [Sem.run] at h; cases h
theorem keeps_next (P : Program) (a : Value) (ty : TypeId) : keeps P (Instr.next a false ty) := by
  unfold Instr.next
  simp only [getObj, setObj, choose]
  split
  · simp only [bind, Sem.bind, keeps]
    intro o
    split
    · simp_all
    · trivial
    · simp only [Sem.bind, keeps]
      intro o
      split
      · split
        · trivial
        · simp only [Sem.bind, keeps]
          intro n
          split
          · simp only [Sem.bind, keeps]; trivial
          · trivial
          · trivial
      · trivial
    · trivial
  · trivial
theorem next_tape {P : Program} {a : Value} {ty : TypeId} {w w' : World} {v : Value} (h : (Instr.next a false ty).run P w = .ok v w') : w'.tape = w.tape := keeps_tape _ w w' v (keeps_next P a ty) h
/-- One step of a range over a map that is not written: what comes out, and what stays. -/
theorem step {P : Program} {w w1 : World} {ty : TypeId} {bm since c0 r : Nat} {seen : Array Nat} {es : Array MapEntry} {clock : Nat} (hr : w.heap.size = r) (hw : w1.Alike w) (ht : w1.tape = w.tape) (hb : w.heap[bm]? = some (.map es clock)) (hold : ∀ x ∈ es.toList, x.born < since) (hsc : since ≤ c0) :
    ((leftOf es seen).size = 0 ∧ (Instr.next (.pointer (some ⟨r, 0, none⟩)) false ty).run P (w1.alloc (.mapIter (some bm) since seen c0)) = .ok (.tuple #[.bool false]) (w1.alloc (.mapIter (some bm) since seen c0))) ∨
    ∃ e ∈ (leftOf es seen).toList, ∃ w2 : World, w2.Alike w ∧ w2.tape = w.tape ∧ (Instr.next (.pointer (some ⟨r, 0, none⟩)) false ty).run P (w1.alloc (.mapIter (some bm) since seen c0)) = .ok (.tuple #[.bool true, e.key, e.val]) (w2.alloc (.mapIter (some bm) since (seen.push e.born) clock)) := by
  have hs1 : w1.heap.size = r := by rw [hw.1, hr]
  subst hs1
  rcases run_next_map (P := P) w1 ty bm since c0 seen es clock (by rw [hw.1]; exact hb) hold hsc with h | ⟨e, he, w2, ha, h⟩
  · exact .inl h
  · exact .inr ⟨e, he, w2, ⟨ha.1.trans hw.1, ha.2.1.trans hw.2.1, ha.2.2.trans hw.2.2⟩, (next_tape h).trans ht, h⟩
/-- What is alike lies below, but for what is laid anew. -/
theorem below_alike {w w1 : World} (hw : w1.Alike w) (ht : w1.tape = w.tape) (o : Obj) : Below w.heap.size w (w1.alloc o) := by
  refine ⟨hw.2.1, ht, hw.2.2, ?_, fun k hk => ?_⟩
  · show w.heap.size ≤ (w1.heap.push o).size
    rw [hw.1]
    simp
  · exact (Below.heap_alloc w1 o k (by rw [hw.1]; exact hk)).trans (by rw [hw.1])
/-! ### a sum that does not hang on the order -/
def sumSeen (f : MapEntry → Nat) : List MapEntry → Array Nat → Nat
  | [], _ => 0
  | x :: l, seen => (if seen.contains x.born then f x else 0) + sumSeen f l seen
theorem sum_none (f : MapEntry → Nat) : ∀ l : List MapEntry, sumSeen f l #[] = 0
  | [] => rfl
  | x :: l => by
    have h : (#[] : Array Nat).contains x.born = false := by simp
    rw [sumSeen, h, sum_none f l]
    rfl
theorem sum_same (f : MapEntry → Nat) (seen : Array Nat) (b : Nat) : ∀ l : List MapEntry, (∀ x ∈ l, x.born ≠ b) → sumSeen f l (seen.push b) = sumSeen f l seen
  | [], _ => rfl
  | x :: l, h => by
    have h1 : (x.born == b) = false := by simpa using h x (List.mem_cons_self ..)
    rw [sumSeen, sumSeen, contains_push, h1, Bool.or_false, sum_same f seen b l (fun y hy => h y (List.mem_cons_of_mem _ hy))]
theorem sum_push (f : MapEntry → Nat) (seen : Array Nat) (e : MapEntry) (hs : seen.contains e.born = false) : ∀ l : List MapEntry, (l.map (·.born)).Nodup → e ∈ l → sumSeen f l (seen.push e.born) = sumSeen f l seen + f e
  | x :: l, hn, he => by
    have hn' := List.nodup_cons.1 hn
    rcases List.mem_cons.1 he with rfl | he
    · rw [sumSeen, sumSeen, contains_push, hs, beq_self_eq_true, Bool.false_or, sum_same f seen _ l (fun y hy e1 => hn'.1 (List.mem_map.2 ⟨y, hy, e1⟩))]
      simp
      omega
    · have h1 : (x.born == e.born) = false := by
        have : x.born ≠ e.born := fun e1 => hn'.1 (List.mem_map.2 ⟨e, he, e1.symm⟩)
        simpa using this
      rw [sumSeen, sumSeen, contains_push, h1, Bool.or_false, sum_push f seen e hs l hn'.2 he]
      omega
theorem sum_all (f : MapEntry → Nat) (seen : Array Nat) : ∀ l : List MapEntry, (∀ x ∈ l, seen.contains x.born = true) → sumSeen f l seen = (l.map f).sum
  | [], _ => rfl
  | x :: l, h => by
    rw [sumSeen, h x (List.mem_cons_self ..), if_pos rfl, sum_all f seen l (fun y hy => h y (List.mem_cons_of_mem _ hy)), List.map_cons, List.sum_cons]
theorem sum_le (f : MapEntry → Nat) (seen : Array Nat) : ∀ l : List MapEntry, sumSeen f l seen ≤ (l.map f).sum
  | [] => Nat.le_refl _
  | x :: l => by
    have := sum_le f seen l
    rw [sumSeen, List.map_cons, List.sum_cons]
    split <;> omega
end Go.Proofs.Ytnplnelhodnonaa.Tape
