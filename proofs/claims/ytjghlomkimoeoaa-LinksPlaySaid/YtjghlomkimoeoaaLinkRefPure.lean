/- The document's links as plain data, and how they answer. -/
import Derived.Test.YtjghlomkimoeoaaLinkFill
import Derived.Test.YtjghlomkimoeoaaLinkTurn
namespace Go.Proofs.Ytjghlomkimoeoaa.Lnk
open Amap
set_option linter.unusedVariables false
structure RSt where
  parties : Int
  L : List (Key × List (List Int))
/-- The links answer as the document's. -/
structure Alike (S : LSt) (R : RSt) : Prop where
  par : S.parties = R.parties
  lines : ∀ k, line S.L k = line R.L k
  nd : (R.L.map (·.1)).Nodup
  tot : tot S.L = tot R.L
def rfind (R : RSt) (k : Key) : RSt := match mlook R.L k with
  | some _ => R
  | none => ⟨R.parties, R.L ++ [(k, [])]⟩
theorem tot_snoc (L : List (Key × List (List Int))) (k : Key) : tot (L ++ [(k, [])]) = tot L := by
  induction L with
  | nil => rfl
  | cons q L ih => simp only [List.cons_append, tot, ih]
theorem line_snoc (L : List (Key × List (List Int))) (k k' : Key) (h : mlook L k = none) : line (L ++ [(k, [])]) k' = line L k' := by
  have hp : mput L k [] = L ++ [(k, [])] := mput_new [] (mlook_none.1 h)
  rw [← hp, line_put]
  split
  · rename_i e
    subst e
    unfold line
    rw [h]
    rfl
  · rfl
theorem Alike.find {S : LSt} {R : RSt} (h : Alike S R) (k : Key) : Alike S (rfind R k) := by
  unfold rfind
  cases hl : mlook R.L k with
  | some v => exact h
  | none =>
    refine ⟨h.par, fun k' => ?_, ?_, ?_⟩
    · rw [h.lines k']; exact (line_snoc R.L k k' hl).symm
    · have := mput_keys_new (v := ([] : List (List Int))) h.nd (mlook_none.1 hl)
      rw [mput_new [] (mlook_none.1 hl)] at this
      exact this
    · rw [h.tot]; exact (tot_snoc R.L k).symm
theorem put_nd {L : List (Key × List (List Int))} (h : (L.map (·.1)).Nodup) (k : Key) (v : List (List Int)) : ((mput L k v).map (·.1)).Nodup := by
  cases hl : mlook L k with
  | none => exact mput_keys_new v h (mlook_none.1 hl)
  | some u =>
    obtain ⟨j, hj, e⟩ := List.getElem_of_mem (mlook_mem hl)
    rw [mput_keys_old v h (j := j) (by rw [List.getElem?_eq_getElem hj, e])]
    exact h
theorem Alike.put {S : LSt} {R : RSt} (h : Alike S R) (k : Key) (v : List (List Int)) : Alike ⟨S.parties, mput S.L k v⟩ ⟨R.parties, mput R.L k v⟩ := by
  refine ⟨h.par, fun k' => ?_, put_nd h.nd k v, ?_⟩
  · simp only [line_put]
    split
    · rfl
    · exact h.lines k'
  · have h1 := tot_put S.L k v
    have h2 := tot_put R.L k v
    have h3 := h.lines k
    have h4 := h.tot
    rw [h3] at h1
    simp only []
    omega
def rthere (R : RSt) (k : Key) : Bool := there ⟨R.parties, []⟩ k
theorem Alike.there {S : LSt} {R : RSt} (h : Alike S R) (k : Key) : there S k = rthere R k := by
  unfold rthere Lnk.there Lnk.party
  rw [h.par]
def rsend (R : RSt) (k : Key) (b : List Int) : RSt × Int :=
  if rthere R k = false then (R, 5) else if 100 ≤ tot R.L then (rfind R k, 7) else (⟨R.parties, mput (rfind R k).L k (line R.L k ++ [b])⟩, 0)
theorem rfind_par (R : RSt) (k : Key) : (rfind R k).parties = R.parties := by
  unfold rfind; split <;> rfl
theorem rfind_line (R : RSt) (k k' : Key) : line (rfind R k).L k' = line R.L k' := by
  unfold rfind
  split
  · rfl
  · rename_i h; exact line_snoc R.L k k' h
theorem Alike.send {S : LSt} {R : RSt} (h : Alike S R) (k : Key) (b : List Int) : (send S k b).2 = (rsend R k b).2 ∧ Alike (send S k b).1 (rsend R k b).1 := by
  unfold Lnk.send rsend
  rw [h.there k, h.tot]
  split
  · exact ⟨rfl, h⟩
  · split
    · exact ⟨rfl, h.find k⟩
    · refine ⟨rfl, ?_⟩
      have := (h.find k).put k (line S.L k ++ [b])
      rw [rfind_par] at this
      rw [h.lines k] at this ⊢
      exact this
/-- What cannot be sent has no letters. -/
def Dead (S : LSt) : Prop := ∀ k, there S k = false → line S.L k = []
theorem there_put (S : LSt) (L : List (Key × List (List Int))) (k : Key) : there ⟨S.parties, L⟩ k = there S k := rfl
theorem Dead.put {S : LSt} (h : Dead S) {k : Key} (hk : there S k = true) (v : List (List Int)) : Dead ⟨S.parties, mput S.L k v⟩ := by
  intro k' hk'
  rw [there_put] at hk'
  simp only [line_put]
  split
  · rename_i e; subst e; rw [hk] at hk'; cases hk'
  · exact h k' hk'
theorem Dead.at {S : LSt} (h : Dead S) {k : Key} (hl : line S.L k ≠ []) : there S k = true := by
  cases ht : Lnk.there S k with
  | true => rfl
  | false => exact absurd (h k ht) hl
theorem Dead.send {S : LSt} (h : Dead S) (k : Key) (b : List Int) : Dead (send S k b).1 := by
  unfold Lnk.send
  split
  · exact h
  · split
    · exact h
    · rename_i h1 _
      exact h.put (by simpa using h1) _
theorem peek_ne {S : LSt} {k : Key} {i : Int} {x : List Int} (h : peek S k i = some x) : line S.L k ≠ [] := by
  obtain ⟨_, h1, _⟩ := peek_some h
  intro e
  rw [e] at h1
  simp at h1
  omega
theorem Dead.take {S : LSt} (h : Dead S) (k : Key) (i : Int) : Dead (take S k i) := by
  unfold Lnk.take
  split
  · exact h
  · rename_i x hx
    exact h.put (h.at (peek_ne hx)) _
theorem Dead.double {S : LSt} (h : Dead S) (k : Key) (i : Int) : Dead (double S k i).1 := by
  unfold Lnk.double
  split
  · exact h
  · exact h.send k _
theorem Dead.turn {S : LSt} (h : Dead S) (k : Key) : Dead (turn S k).1 := by
  unfold Lnk.turn
  split
  · rename_i x y r hl
    exact h.put (h.at (by rw [hl]; simp)) _
  · exact h
/-- The document's answers. -/
def rpeek (R : RSt) (k : Key) (i : Int) : RSt × Option (List Int) :=
  if rthere R k = false then (R, none) else (rfind R k, if 0 ≤ i then (line R.L k)[i.toNat]? else none)
theorem Alike.peek {S : LSt} {R : RSt} (h : Alike S R) (hd : Dead S) (k : Key) (i : Int) : peek S k i = (rpeek R k i).2 ∧ Alike S (rpeek R k i).1 := by
  unfold rpeek
  rw [← h.there k]
  split
  · rename_i ht
    refine ⟨?_, h⟩
    unfold Lnk.peek
    rw [hd k ht]
    simp
  · refine ⟨?_, h.find k⟩
    unfold Lnk.peek
    rw [h.lines k]
def rtake (R : RSt) (k : Key) (i : Int) : RSt := match (rpeek R k i).2 with
  | none => (rpeek R k i).1
  | some _ => ⟨R.parties, mput (rfind R k).L k ((line R.L k).eraseIdx i.toNat)⟩
def rdouble (R : RSt) (k : Key) (i : Int) : RSt × Int := match (rpeek R k i).2 with
  | none => ((rpeek R k i).1, 5)
  | some x => rsend (rpeek R k i).1 k x
def rturn (R : RSt) (k : Key) : RSt × Bool := if rthere R k = false then (R, false) else match line R.L k with
  | x :: y :: r => (⟨R.parties, mput (rfind R k).L k (y :: r ++ [x])⟩, true)
  | _ => (rfind R k, false)
def rcount (R : RSt) (k : Key) : RSt × Nat := if rthere R k = false then (R, 0) else (rfind R k, (line R.L k).length)
theorem Alike.take {S : LSt} {R : RSt} (h : Alike S R) (hd : Dead S) (k : Key) (i : Int) : Alike (take S k i) (rtake R k i) := by
  obtain ⟨h1, h2⟩ := h.peek hd k i
  unfold Lnk.take rtake
  rw [h1]
  cases hp : (rpeek R k i).2 with
  | none => exact h2
  | some x =>
    have := (h.find k).put k ((line R.L k).eraseIdx i.toNat)
    rw [rfind_par] at this
    rw [h.lines k]
    exact this
theorem Alike.double {S : LSt} {R : RSt} (h : Alike S R) (hd : Dead S) (k : Key) (i : Int) : (double S k i).2 = (rdouble R k i).2 ∧ Alike (double S k i).1 (rdouble R k i).1 := by
  obtain ⟨h1, h2⟩ := h.peek hd k i
  unfold Lnk.double rdouble
  rw [h1]
  cases hp : (rpeek R k i).2 with
  | none => exact ⟨rfl, h2⟩
  | some x => exact h2.send k _
theorem Alike.turn {S : LSt} {R : RSt} (h : Alike S R) (hd : Dead S) (k : Key) : (turn S k).2 = (rturn R k).2 ∧ Alike (turn S k).1 (rturn R k).1 := by
  unfold Lnk.turn rturn
  rw [← h.there k, ← h.lines k]
  cases ht : Lnk.there S k with
  | false =>
    rw [if_pos rfl, hd k ht]
    exact ⟨rfl, h⟩
  | true =>
    rw [if_neg (by simp)]
    rcases hl : line S.L k with _ | ⟨x, _ | ⟨y, r⟩⟩
    · exact ⟨rfl, h.find k⟩
    · exact ⟨rfl, h.find k⟩
    · refine ⟨rfl, ?_⟩
      have := (h.find k).put k (y :: r ++ [x])
      rw [rfind_par] at this
      exact this
theorem Alike.count {S : LSt} {R : RSt} (h : Alike S R) (hd : Dead S) (k : Key) : (line S.L k).length = (rcount R k).2 ∧ Alike S (rcount R k).1 := by
  unfold rcount
  rw [← h.there k]
  split
  · rename_i ht; rw [hd k ht]; exact ⟨rfl, h⟩
  · rw [h.lines k]; exact ⟨rfl, h.find k⟩
end Go.Proofs.Ytjghlomkimoeoaa.Lnk
