/- The ledger, as plain data: what is known of each turn, and what was applied; the laws of it. -/
import Derived.Test.YtdglbiafpofeeaaAmap
namespace Go.Proofs.Ytdglbiafpofeeaa.Led
open Amap

structure Ent where
  done : Bool
  undone : Bool
  db : Int
  dok : Bool
  ub : Int
  uok : Bool
deriving DecidableEq
def ent0 : Ent := ⟨false, false, 0, false, 0, false⟩
structure Eff where
  undo : Bool
  inst : Int
  turn : Int
  name : ByteArray
structure Msg where
  kind : Int
  inst : Int
  turn : Int
  name : ByteArray
  att : Int
  ok : Bool
def msg0 : Msg := ⟨0, 0, 0, ⟨#[]⟩, 0, false⟩
abbrev Key := Int × Int
structure St where
  L : List (Key × Ent)
  E : List Eff
def st0 : St := ⟨[], []⟩

def num (n : Int) : Bool := decide (0 ≤ n) && decide (n ≤ 2147483647)
def formed (m : Msg) : Bool :=
  decide (1 ≤ m.kind) && decide (m.kind ≤ 4) && num m.inst && num m.turn && num m.att && decide (m.name.size ≤ 200) && (!m.ok || decide (3 ≤ m.kind))
def takes (m : Msg) : Bool := formed m && decide (m.kind ≤ 2)

def doIt (x : Ent) (n : Int) (acc : Bool) : Ent × Bool × Bool :=
  if x.undone = true then (x, false, false) else if x.done = true then (x, true, false) else if n < x.db then (x, x.dok, false)
  else ({ x with db := n + 1, dok := acc, done := acc }, acc, acc)
def undoIt (x : Ent) (n : Int) (acc : Bool) : Ent × Bool × Bool :=
  if x.undone = true then (x, true, false) else if n < x.ub then (x, x.uok, false)
  else ({ x with ub := n + 1, uok := acc || !x.done, undone := acc || !x.done }, acc || !x.done, (acc || !x.done) && x.done)
def act (m : Msg) (x : Ent) (acc : Bool) : Ent × Bool × Bool := if m.kind = 1 then doIt x m.att acc else undoIt x m.att acc
def reply (m : Msg) (ok : Bool) : Msg := { m with kind := m.kind + 2, ok := ok }
def effOf (m : Msg) : Eff := ⟨decide (m.kind = 2), m.inst, m.turn, m.name⟩
/-- The entry of a turn, or a new one; none: there is no room. -/
def found (S : St) (k : Key) : Option Ent := match mlook S.L k with
  | some x => some x
  | none => if S.L.length < 200 then some ent0 else none
def take (S : St) (m : Msg) (acc : Bool) : St × Msg × Bool :=
  if takes m = true then match found S (m.inst, m.turn) with
    | some x => (⟨mput S.L (m.inst, m.turn) (act m x acc).1, if (act m x acc).2.2 = true then S.E ++ [effOf m] else S.E⟩, reply m (act m x acc).2.1, true)
    | none => (S, msg0, false)
  else (S, msg0, false)

theorem mlook_put_same {κ α : Type} [DecidableEq κ] (m : List (κ × α)) (x : κ) (v : α) : mlook (mput m x v) x = some v := by
  induction m with
  | nil => simp [mput, mlook]
  | cons p m ih =>
    unfold mput
    split
    · simp [mlook]
    · rename_i h; simp [mlook, h, ih]
theorem mlook_put_other {κ α : Type} [DecidableEq κ] (m : List (κ × α)) {x y : κ} (v : α) (h : y ≠ x) : mlook (mput m x v) y = mlook m y := by
  induction m with
  | nil => simp [mput, mlook, Ne.symm h]
  | cons p m ih =>
    unfold mput
    split
    · rename_i e; subst e; simp [mlook, Ne.symm h]
    · simp [mlook, ih]
theorem mput_length {κ α : Type} [DecidableEq κ] (m : List (κ × α)) (x : κ) (v : α) : (mput m x v).length = if (mlook m x).isSome then m.length else m.length + 1 := by
  induction m with
  | nil => simp [mput, mlook]
  | cons p m ih =>
    unfold mput mlook
    split
    · rename_i h; simp [h]
    · rename_i h
      simp only [if_neg h, List.length_cons, ih]
      split <;> rfl
theorem mput_mput {κ α : Type} [DecidableEq κ] (m : List (κ × α)) (x : κ) (u v : α) : mput (mput m x u) x v = mput m x v := by
  induction m with
  | nil => simp [mput]
  | cons p m ih =>
    by_cases h : p.1 = x
    · simp [mput, h]
    · simp [mput, h, ih]
theorem mput_keys_mem {κ α : Type} [DecidableEq κ] {m : List (κ × α)} {x : κ} {v : α} {p : κ × α} (h : p ∈ mput m x v) : p = (x, v) ∨ p ∈ m := by
  induction m with
  | nil => simp [mput] at h; exact .inl h
  | cons q m ih =>
    unfold mput at h
    split at h
    · rcases List.mem_cons.1 h with h | h
      · exact .inl h
      · exact .inr (List.mem_cons_of_mem _ h)
    · rcases List.mem_cons.1 h with h | h
      · exact .inr (h ▸ List.mem_cons_self ..)
      · rcases ih h with h | h
        · exact .inl h
        · exact .inr (List.mem_cons_of_mem _ h)

/-! ### the same request again -/
theorem doIt_again (x : Ent) (n : Int) (acc acc' : Bool) : (doIt (doIt x n acc).1 n acc') = ((doIt x n acc).1, (doIt x n acc).2.1, false) ∨ False := by
  left
  unfold doIt
  by_cases h1 : x.undone = true
  · simp [h1]
  · by_cases h2 : x.done = true
    · simp [h1, h2]
    · by_cases h3 : n < x.db
      · simp [h1, h2, h3]
      · simp only [h1, h2, h3, if_false, if_neg, Bool.false_eq_true]
        cases acc
        · simp [h1, show n < n + 1 by omega]
        · simp [h1]
theorem undoIt_again (x : Ent) (n : Int) (acc acc' : Bool) : (undoIt (undoIt x n acc).1 n acc') = ((undoIt x n acc).1, (undoIt x n acc).2.1, false) := by
  unfold undoIt
  by_cases h1 : x.undone = true
  · simp [h1]
  · by_cases h3 : n < x.ub
    · simp [h1, h3]
    · simp only [h1, h3, if_false, if_neg, Bool.false_eq_true]
      cases acc <;> cases hd : x.done <;> simp [show n < n + 1 by omega]
theorem act_again (m : Msg) (x : Ent) (acc acc' : Bool) : act m (act m x acc).1 acc' = ((act m x acc).1, (act m x acc).2.1, false) := by
  unfold act
  split
  · rcases doIt_again x m.att acc acc' with h | h
    · exact h
    · exact h.elim
  · exact undoIt_again x m.att acc acc'
theorem found_put (S : St) (k : Key) (v : Ent) (E : List Eff) : found ⟨mput S.L k v, E⟩ k = some v := by
  unfold found
  simp only [mlook_put_same]
theorem take_again (S : St) (m : Msg) (acc acc' : Bool) : take (take S m acc).1 m acc' = ((take S m acc).1, (take S m acc).2.1, (take S m acc).2.2) := by
  unfold take
  by_cases h : takes m = true
  · simp only [h, if_true]
    cases hf : found S (m.inst, m.turn) with
    | none => simp only [hf]
    | some x => simp only [found_put, act_again, mput_mput, Bool.false_eq_true, if_false]
  · simp only [h, if_neg, not_false_eq_true, if_false, Bool.false_eq_true]

/-! ### nothing twice -/
def effs (E : List Eff) (u : Bool) (k : Key) : Prop := ∃ e ∈ E, e.undo = u ∧ e.inst = k.1 ∧ e.turn = k.2
/-- Each effect's turn: no effect ahead of it is the same; an undo has a do ahead of it. -/
def Once : List Eff → List Eff → Prop
  | _, [] => True
  | A, e :: r => ¬ effs A e.undo (e.inst, e.turn) ∧ (e.undo = true → effs A false (e.inst, e.turn)) ∧ Once (A ++ [e]) r
theorem once_snoc : ∀ (l A : List Eff) (e : Eff), Once A l → ¬ effs (A ++ l) e.undo (e.inst, e.turn) → (e.undo = true → effs (A ++ l) false (e.inst, e.turn)) → Once A (l ++ [e])
  | [], A, e, _, h1, h2 => ⟨by simpa using h1, by simpa using h2, trivial⟩
  | x :: r, A, e, h, h1, h2 => by
    obtain ⟨a, b, c⟩ := h
    refine ⟨a, b, once_snoc r _ e c ?_ ?_⟩
    · simpa using h1
    · simpa using h2
structure Good (S : St) : Prop where
  once : Once [] S.E
  dones : ∀ k, effs S.E false k → ∃ x, mlook S.L k = some x ∧ x.done = true
  undones : ∀ k, effs S.E true k → ∃ x, mlook S.L k = some x ∧ x.undone = true
  did : ∀ k x, mlook S.L k = some x → x.done = true → effs S.E false k
theorem effs_snoc {E : List Eff} {e : Eff} {u : Bool} {k : Key} : effs (E ++ [e]) u k ↔ effs E u k ∨ (e.undo = u ∧ e.inst = k.1 ∧ e.turn = k.2) := by
  unfold effs
  constructor
  · rintro ⟨x, hx, h⟩
    rcases List.mem_append.1 hx with hx | hx
    · exact .inl ⟨x, hx, h⟩
    · rw [List.mem_singleton.1 hx] at h; exact .inr h
  · rintro (⟨x, hx, h⟩ | h)
    · exact ⟨x, List.mem_append_left _ hx, h⟩
    · exact ⟨e, by simp, h⟩

theorem found_look {S : St} {k : Key} {x : Ent} (h : found S k = some x) : mlook S.L k = some x ∨ (mlook S.L k = none ∧ x = ent0 ∧ S.L.length < 200) := by
  unfold found at h
  split at h
  · rename_i y hy; left; rw [hy]; exact h
  · rename_i hy
    split at h
    · rename_i hl; right; exact ⟨hy, (Option.some.inj h).symm, hl⟩
    · cases h
theorem good_keep {S : St} (g : Good S) {k : Key} {x x' : Ent} (hf : found S k = some x) (h1 : x'.done = x.done) (h2 : x.undone = true → x'.undone = true) : Good ⟨mput S.L k x', S.E⟩ where
  once := g.once
  dones := fun k' h => by
    obtain ⟨y, hy, hd⟩ := g.dones k' h
    by_cases e : k' = k
    · subst e
      rcases found_look hf with hl | ⟨hl, _⟩
      · rw [hl] at hy
        cases hy
        exact ⟨x', mlook_put_same _ _ _, h1.trans hd⟩
      · rw [hl] at hy; cases hy
    · exact ⟨y, (mlook_put_other _ _ e).trans hy, hd⟩
  undones := fun k' h => by
    obtain ⟨y, hy, hd⟩ := g.undones k' h
    by_cases e : k' = k
    · subst e
      rcases found_look hf with hl | ⟨hl, _⟩
      · rw [hl] at hy
        cases hy
        exact ⟨x', mlook_put_same _ _ _, h2 hd⟩
      · rw [hl] at hy; cases hy
    · exact ⟨y, (mlook_put_other _ _ e).trans hy, hd⟩
  did := fun k' y hy hd => by
    by_cases e : k' = k
    · subst e
      have hy' : mput S.L k' x' = mput S.L k' x' := rfl
      rw [show (⟨mput S.L k' x', S.E⟩ : St).L = mput S.L k' x' from rfl, mlook_put_same] at hy
      cases hy
      rcases found_look hf with hl | ⟨hl, rfl, _⟩
      · exact g.did _ _ hl (h1.symm.trans hd)
      · rw [h1] at hd; cases hd
    · exact g.did _ _ ((mlook_put_other _ _ e).symm.trans hy) hd
theorem good_do {S : St} (g : Good S) {k : Key} {x x' : Ent} (hf : found S k = some x) {e : Eff} (he : (e.inst, e.turn) = k) (hu : e.undo = false) (h0 : x.done = false) (h1 : x'.done = true) (h2 : x.undone = true → x'.undone = true) : Good ⟨mput S.L k x', S.E ++ [e]⟩ where
  once := by
    refine once_snoc _ _ _ g.once ?_ (fun h => by rw [hu] at h; cases h)
    rw [List.nil_append, hu, he]
    intro h
    obtain ⟨y, hy, hd⟩ := g.dones k h
    rcases found_look hf with hl | ⟨hl, _⟩
    · rw [hl] at hy; cases hy; rw [h0] at hd; cases hd
    · rw [hl] at hy; cases hy
  dones := fun k' h => by
    by_cases ek : k' = k
    · subst ek; exact ⟨x', mlook_put_same _ _ _, h1⟩
    · rcases effs_snoc.1 h with h | ⟨_, a, b⟩
      · obtain ⟨y, hy, hd⟩ := g.dones k' h
        exact ⟨y, (mlook_put_other _ _ ek).trans hy, hd⟩
      · exact absurd (Prod.ext a.symm b.symm : k' = (e.inst, e.turn)) (by rw [he]; exact ek)
  undones := fun k' h => by
    rcases effs_snoc.1 h with h | ⟨a, _⟩
    · obtain ⟨y, hy, hd⟩ := g.undones k' h
      by_cases ek : k' = k
      · subst ek
        rcases found_look hf with hl | ⟨hl, _⟩
        · rw [hl] at hy; cases hy; exact ⟨x', mlook_put_same _ _ _, h2 hd⟩
        · rw [hl] at hy; cases hy
      · exact ⟨y, (mlook_put_other _ _ ek).trans hy, hd⟩
    · rw [hu] at a; cases a
  did := fun k' y hy hd => by
    by_cases ek : k' = k
    · subst ek; exact effs_snoc.2 (.inr ⟨hu, by rw [← he], by rw [← he]⟩)
    · exact effs_snoc.2 (.inl (g.did _ _ ((mlook_put_other _ _ ek).symm.trans hy) hd))
theorem good_undo {S : St} (g : Good S) {k : Key} {x x' : Ent} (hf : found S k = some x) {e : Eff} (he : (e.inst, e.turn) = k) (hu : e.undo = true) (h0 : x.undone = false) (h1 : x'.undone = true) (hd0 : x.done = true) (hd1 : x'.done = true) : Good ⟨mput S.L k x', S.E ++ [e]⟩ where
  once := by
    refine once_snoc _ _ _ g.once ?_ (fun _ => ?_)
    · rw [List.nil_append, hu, he]
      intro h
      obtain ⟨y, hy, hd⟩ := g.undones k h
      rcases found_look hf with hl | ⟨hl, _⟩
      · rw [hl] at hy; cases hy; rw [h0] at hd; cases hd
      · rw [hl] at hy; cases hy
    · rw [List.nil_append, he]
      rcases found_look hf with hl | ⟨hl, rfl, _⟩
      · exact g.did _ _ hl hd0
      · cases hd0
  dones := fun k' h => by
    rcases effs_snoc.1 h with h | ⟨a, _⟩
    · obtain ⟨y, hy, hd⟩ := g.dones k' h
      by_cases ek : k' = k
      · subst ek; exact ⟨x', mlook_put_same _ _ _, hd1⟩
      · exact ⟨y, (mlook_put_other _ _ ek).trans hy, hd⟩
    · rw [hu] at a; cases a
  undones := fun k' h => by
    by_cases ek : k' = k
    · subst ek; exact ⟨x', mlook_put_same _ _ _, h1⟩
    · rcases effs_snoc.1 h with h | ⟨_, a, b⟩
      · obtain ⟨y, hy, hd⟩ := g.undones k' h
        exact ⟨y, (mlook_put_other _ _ ek).trans hy, hd⟩
      · exact absurd (Prod.ext a.symm b.symm : k' = (e.inst, e.turn)) (by rw [he]; exact ek)
  did := fun k' y hy hd => by
    by_cases ek : k' = k
    · subst ek
      rcases found_look hf with hl | ⟨hl, rfl, _⟩
      · exact effs_snoc.2 (.inl (g.did _ _ hl hd0))
      · cases hd0
    · exact effs_snoc.2 (.inl (g.did _ _ ((mlook_put_other _ _ ek).symm.trans hy) hd))
theorem takes_kind {m : Msg} (h : takes m = true) : m.kind = 1 ∨ m.kind = 2 := by
  simp [takes, formed] at h
  omega
theorem good_take {S : St} (g : Good S) (m : Msg) (acc : Bool) : Good (take S m acc).1 := by
  unfold take
  by_cases h : takes m = true
  · simp only [h, if_true]
    cases hf : found S (m.inst, m.turn) with
    | none => exact g
    | some x =>
      show Good ⟨mput S.L (m.inst, m.turn) (act m x acc).1, if (act m x acc).2.2 = true then S.E ++ [effOf m] else S.E⟩
      rcases takes_kind h with hk | hk
      · have ha : act m x acc = doIt x m.att acc := by unfold act; rw [if_pos hk]
        rw [ha]
        unfold doIt
        by_cases h1 : x.undone = true
        · simp only [h1, if_true, Bool.false_eq_true, if_false]
          exact good_keep g hf rfl (fun h => h)
        · by_cases h2 : x.done = true
          · simp only [h1, h2, if_true, Bool.false_eq_true, if_false]
            exact good_keep g hf rfl (fun h => h)
          · by_cases h3 : m.att < x.db
            · simp only [h1, h2, h3, if_true, Bool.false_eq_true, if_false]
              exact good_keep g hf rfl (fun h => h)
            · simp only [h1, h2, h3, if_true, Bool.false_eq_true, if_false]
              cases acc
              · simp only [Bool.false_eq_true, if_false]
                exact good_keep g hf (by simpa using h2) (fun h => absurd h h1)
              · simp only [if_true]
                exact good_do g hf rfl (by simp [effOf, hk]) (by simpa using h2) rfl (fun h => absurd h h1)
      · have ha : act m x acc = undoIt x m.att acc := by unfold act; rw [if_neg (by omega)]
        rw [ha]
        unfold undoIt
        by_cases h1 : x.undone = true
        · simp only [h1, if_true, Bool.false_eq_true, if_false]
          exact good_keep g hf rfl (fun h => h)
        · by_cases h3 : m.att < x.ub
          · simp only [h1, h3, if_true, Bool.false_eq_true, if_false]
            exact good_keep g hf rfl (fun h => h)
          · simp only [h1, h3, if_true, Bool.false_eq_true, if_false]
            by_cases h4 : ((acc || !x.done) && x.done) = true
            · simp only [h4, if_true]
              simp only [Bool.and_eq_true] at h4
              exact good_undo g hf rfl (by simp [effOf, hk]) (by simpa using h1) h4.1 h4.2 h4.2
            · simp only [h4, Bool.false_eq_true, if_false]
              exact good_keep g hf rfl (fun h => absurd h h1)
  · simp only [h, Bool.false_eq_true, if_false]
    exact g
theorem good0 : Good st0 := ⟨trivial, fun k h => by obtain ⟨_, h, _⟩ := h; simp [st0] at h, fun k h => by obtain ⟨_, h, _⟩ := h; simp [st0] at h, fun k x h => by simp [st0, mlook] at h⟩
/-- Each list's length stays within the bound. -/
theorem take_length (S : St) (m : Msg) (acc : Bool) (h : S.L.length ≤ 200) : (take S m acc).1.L.length ≤ 200 := by
  unfold take
  split
  · cases hf : found S (m.inst, m.turn) with
    | none => exact h
    | some x =>
      show (mput S.L _ _).length ≤ 200
      rw [mput_length]
      rcases found_look hf with hl | ⟨hl, _, hlt⟩
      · simp [hl, h]
      · simp [hl]; omega
  · exact h

/-! ### undone ahead of being done -/
theorem dead_first {m : Msg} (h : takes m = true) (hk : m.kind = 2) (ha : 0 ≤ m.att) (acc : Bool) : ∃ x : Ent, x.undone = true ∧ take st0 m acc = (⟨[((m.inst, m.turn), x)], []⟩, reply m true, true) := by
  have hu : undoIt ent0 m.att acc = (⟨false, true, 0, false, m.att + 1, true⟩, true, false) := by
    unfold undoIt ent0
    rw [if_neg (by simp), if_neg (by simp; omega)]
    cases acc <;> rfl
  refine ⟨⟨false, true, 0, false, m.att + 1, true⟩, rfl, ?_⟩
  unfold take
  rw [if_pos h]
  have hf : found st0 (m.inst, m.turn) = some ent0 := rfl
  have hact : act m ent0 acc = (⟨false, true, 0, false, m.att + 1, true⟩, true, false) := by unfold act; rw [if_neg (by omega), hu]
  simp only [hf, hact, Bool.false_eq_true, if_false]
  rfl
theorem dead_then {m : Msg} (h : takes m = true) (hk : m.kind = 1) {x : Ent} (hx : x.undone = true) (acc : Bool) : take ⟨[((m.inst, m.turn), x)], []⟩ m acc = (⟨[((m.inst, m.turn), x)], []⟩, reply m false, true) := by
  have hact : act m x acc = (x, false, false) := by unfold act doIt; rw [if_pos hk, if_pos hx]
  have hf : found ⟨[((m.inst, m.turn), x)], []⟩ (m.inst, m.turn) = some x := by simp [found, mlook]
  unfold take
  rw [if_pos h]
  simp only [hf, hact, Bool.false_eq_true, if_false]
  simp [mput]
end Go.Proofs.Ytdglbiafpofeeaa.Led
