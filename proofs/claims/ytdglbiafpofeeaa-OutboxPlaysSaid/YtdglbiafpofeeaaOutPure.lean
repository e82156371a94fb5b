/- Outboxes as plain data. -/
namespace Go.Proofs.Ytdglbiafpofeeaa.Obx
/-- A letter: to whom, and the message. -/
structure Lt where
  to : Int
  kind : Int
  inst : Int
  turn : Int
  name : ByteArray
  att : Int
  ok : Bool
def lt0 : Lt := ⟨0, 0, 0, 0, ⟨#[]⟩, 0, false⟩
def formed (k i t : Int) (s : ByteArray) (a : Int) (o : Bool) : Bool :=
  decide (1 ≤ k ∧ k ≤ 4 ∧ 0 ≤ i ∧ i ≤ 2147483647 ∧ 0 ≤ t ∧ t ≤ 2147483647 ∧ 0 ≤ a ∧ a ≤ 2147483647 ∧ s.size ≤ 200 ∧ (o = true → 3 ≤ k))
theorem formed_iff (k i t : Int) (s : ByteArray) (a : Int) (o : Bool) : formed k i t s a o = true ↔ (1 ≤ k ∧ k ≤ 4 ∧ 0 ≤ i ∧ i ≤ 2147483647 ∧ 0 ≤ t ∧ t ≤ 2147483647 ∧ 0 ≤ a ∧ a ≤ 2147483647 ∧ s.size ≤ 200 ∧ (o = true → 3 ≤ k)) := by
  unfold formed
  exact decide_eq_true_iff
/-- Another letter of the same turn. -/
def twin (k i t : Int) (x : Lt) : Bool := (x.kind == k) && (x.inst == i) && (x.turn == t)
/-- A reply to it. -/
def fits (k i t a : Int) (x : Lt) : Bool := (k == x.kind + 2) && (i == x.inst) && (t == x.turn) && (a == x.att)
def put (L : List Lt) (x : Lt) : List Lt × Int :=
  if (formed x.kind x.inst x.turn x.name x.att x.ok && decide (x.kind ≤ 2) && decide (0 ≤ x.to)) = false then (L, 1) else
  if L.any (twin x.kind x.inst x.turn) then (L, 6) else
  if 100 ≤ L.length then (L, 7) else (L ++ [x], 0)
/-- The first letter of a kind. -/
def idx (f : Lt → Bool) : List Lt → Nat → Option Nat
  | [], _ => none
  | x :: r, i => if f x then some i else idx f r (i + 1)
def find (f : Lt → Bool) (L : List Lt) : Option Nat := idx f L 0
theorem idx_drop (f : Lt → Bool) (L : List Lt) (i : Nat) {x : Lt} (h : L[i]? = some x) : idx f (L.drop i) i = if f x then some i else idx f (L.drop (i + 1)) (i + 1) := by
  have hl : i < L.length := (List.getElem?_eq_some_iff.1 h).1
  rw [List.drop_eq_getElem_cons hl]
  have : L[i] = x := by rw [List.getElem?_eq_getElem hl] at h; exact Option.some.inj h
  rw [this]
  rfl
theorem idx_some {f : Lt → Bool} : ∀ {L : List Lt} {i j : Nat}, idx f L i = some j → i ≤ j ∧ j < i + L.length ∧ ∃ x, L[j - i]? = some x ∧ f x = true
  | [], _, _, h => by cases h
  | x :: r, i, j, h => by
    unfold idx at h
    split at h
    · rename_i hf
      cases h
      exact ⟨Nat.le_refl _, by simp, x, by simp, hf⟩
    · obtain ⟨h1, h2, y, h3, h4⟩ := idx_some h
      refine ⟨by omega, by simp; omega, y, ?_, h4⟩
      rw [show j - i = (j - (i + 1)) + 1 by omega, List.getElem?_cons_succ]
      exact h3
theorem idx_any (f : Lt → Bool) : ∀ (L : List Lt) (i : Nat), (idx f L i).isSome = L.any f
  | [], _ => rfl
  | x :: r, i => by
    unfold idx
    cases hf : f x with
    | true => simp [hf]
    | false => simp [hf, idx_any f r (i + 1)]
theorem find_some {f : Lt → Bool} {L : List Lt} {j : Nat} (h : find f L = some j) : ∃ x, L[j]? = some x ∧ f x = true := by
  obtain ⟨_, _, x, h3, h4⟩ := idx_some h
  exact ⟨x, by simpa using h3, h4⟩
theorem find_lt {f : Lt → Bool} {L : List Lt} {j : Nat} (h : find f L = some j) : j < L.length := by
  obtain ⟨x, hx, _⟩ := find_some h
  exact (List.getElem?_eq_some_iff.1 hx).1
def answer (L : List Lt) (k i t a : Int) : List Lt × Lt × Bool := match find (fits k i t a) L with
  | none => (L, lt0, false)
  | some j => (L.eraseIdx j, L.getD j lt0, true)
def stays (n : Int) (x : Lt) : Bool := !(x.inst == n)
def forget (L : List Lt) (n : Int) : List Lt × Int := (L.filter (stays n), (L.length : Int) - ((L.filter (stays n)).length : Int))
/-- What holds along a script. -/
structure Good (L : List Lt) : Prop where
  len : L.length ≤ 100
  kind : ∀ x ∈ L, x.kind = 1 ∨ x.kind = 2
theorem Good.nil : Good [] := ⟨by simp, by simp⟩
theorem Good.put {L : List Lt} (h : Good L) (x : Lt) : Good (put L x).1 := by
  unfold Obx.put
  split
  · exact h
  · rename_i hf
    split
    · exact h
    · split
      · exact h
      · rename_i hl
        refine ⟨by simp; omega, fun y hy => ?_⟩
        rcases List.mem_append.1 hy with hy | hy
        · exact h.kind y hy
        · rw [List.mem_singleton.1 hy]
          simp only [Bool.not_eq_false, Bool.and_eq_true, decide_eq_true_eq] at hf
          have := (formed_iff ..).1 hf.1.1
          omega
theorem Good.answer {L : List Lt} (h : Good L) (k i t a : Int) : Good (answer L k i t a).1 := by
  unfold Obx.answer
  split
  · exact h
  · exact ⟨Nat.le_trans (List.length_eraseIdx_le _ _) h.len, fun x hx => h.kind x (List.mem_of_mem_eraseIdx hx)⟩
theorem Good.forget {L : List Lt} (h : Good L) (n : Int) : Good (forget L n).1 :=
  ⟨Nat.le_trans (List.length_filter_le _ _) h.len, fun x hx => h.kind x (List.mem_filter.1 hx).1⟩
end Go.Proofs.Ytdglbiafpofeeaa.Obx
