/- The document's ledger as plain data, and that it answers as the program's. -/
import Derived.Test.YtdglbiafpofeeaaLedFew
import Derived.Test.YtdglbiafpofeeaaPLedgerPlaysx4
namespace Go.Proofs.Ytdglbiafpofeeaa.Led
open Go.RowKit Go.Proofs.YtdglbiafpofeeaaW.PrintWords Go.Proofs.YtdglbiafpofeeaaW.PrintLast Go.Proofs.YtdglbiafpofeeaaW.PrintMore Go.Proofs.Ytdglbiafpofeeaa.PLedgerPlays
open Amap
set_option linter.unusedVariables false
set_option linter.unusedSimpArgs false

def rmatch (x : S100) (m : Msg) : Bool := decide (x.f0 = m.inst) && decide (x.f1 = m.turn)
/-- The place that the search has behind so many rounds. -/
def atk (L : List S100) (m : Msg) : Nat → Nat
  | 0 => L.length
  | k + 1 => if rmatch (L.getD k z100) m = true then k else atk L m k
def rat (L : List S100) (m : Msg) : Nat := atk L m L.length
def rent (x : S100) (m : Msg) (acc : Bool) : S100 × Bool × Bool :=
  if m.kind = 1 then
    if x.f3 = true then (x, false, false) else if x.f2 = true then (x, true, false) else if m.att ≤ x.f4 then (x, x.f6, false)
    else (⟨x.f0, x.f1, acc, x.f3, m.att, x.f5, acc, x.f7⟩, acc, acc)
  else
    if x.f3 = true then (x, true, false) else if m.att ≤ x.f5 then (x, x.f7, false)
    else (⟨x.f0, x.f1, x.f2, acc || !x.f2, x.f4, m.att, x.f6, acc || !x.f2⟩, acc || !x.f2, (acc || !x.f2) && x.f2)
def effR (e : Eff) : S103 := ⟨e.undo, e.inst, e.turn, e.name⟩
def rold (L : List S100) (m : Msg) : S100 := if rat L m < L.length then L.getD (rat L m) z100 else ⟨m.inst, m.turn, false, false, -1, -1, false, false⟩
def rput (L : List S100) (a : Nat) (x : S100) : List S100 := L.take a ++ [x] ++ (if a < L.length then L.drop (a + 1) else [])
def rtake (L : List S100) (E : List S103) (m : Msg) (acc : Bool) : (List S100 × List S103) × Msg × Bool :=
  if takes m = true then
    if rat L m = 200 then ((L, E), msg0, false)
    else ((rput L (rat L m) (rent (rold L m) m acc).1, if (rent (rold L m) m acc).2.2 = true then E ++ [effR (effOf m)] else E), reply m (rent (rold L m) m acc).2.1, true)
  else ((L, E), msg0, false)
theorem rformed_f (m : Msg) : tumbrelref18_Formed.f m.kind m.inst m.turn m.name m.att m.ok = some (formed m) := by
  obtain ⟨k, i, t, s, a, o⟩ := m
  unfold tumbrelref18_Formed.f formed num
  by_cases h1 : k < 1 <;> by_cases h2 : k > 4 <;> by_cases h3 : i < 0 <;> by_cases h4 : i > 2147483647 <;> by_cases h5 : t < 0 <;> by_cases h6 : t > 2147483647 <;> by_cases h7 : a < 0 <;> by_cases h8 : a > 2147483647 <;>
    first
      | omega
      | (simp only [h1, h2, h3, h4, h5, h6, h7, h8, if_true, if_false]
         first
           | (have : ¬ (1 ≤ k) := by omega
              simp [this]; done)
           | (have : ¬ (k ≤ 4) := by omega
              simp [this]; done)
           | (have : ¬ (0 ≤ i) := by omega
              simp [this]; done)
           | (have : ¬ (i ≤ 2147483647) := by omega
              simp [this]; done)
           | (have : ¬ (0 ≤ t) := by omega
              simp [this]; done)
           | (have : ¬ (t ≤ 2147483647) := by omega
              simp [this]; done)
           | (have : ¬ (0 ≤ a) := by omega
              simp [this]; done)
           | (have : ¬ (a ≤ 2147483647) := by omega
              simp [this]; done)
           | (have e1 : 1 ≤ k := by omega
              have e2 : k ≤ 4 := by omega
              have e3 : 0 ≤ i := by omega
              have e4 : i ≤ 2147483647 := by omega
              have e5 : 0 ≤ t := by omega
              have e6 : t ≤ 2147483647 := by omega
              have e7 : 0 ≤ a := by omega
              have e8 : a ≤ 2147483647 := by omega
              by_cases h9 : s.size ≤ 200 <;> by_cases h10 : 2 < k <;> cases o <;> simp [e1, e2, e3, e4, e5, e6, e7, e8, h9, h10, show (s.size : Int) ≤ 200 ↔ s.size ≤ 200 by omega, show (3 : Int) ≤ k ↔ 2 < k by omega]))
def toRef (q : Key × Ent) : S100 := ⟨q.1.1, q.1.2, q.2.done, q.2.undone, q.2.db - 1, q.2.ub - 1, q.2.dok, q.2.uok⟩
theorem rent_act (k : Key) (x : Ent) (m : Msg) (acc : Bool) : rent (toRef (k, x)) m acc = (toRef (k, (act m x acc).1), (act m x acc).2.1, (act m x acc).2.2) := by
  obtain ⟨a, b, c, d, e, f⟩ := x
  unfold rent act doIt undoIt toRef
  by_cases h1 : m.kind = 1
  · simp only [h1, if_true]
    cases b <;> cases a <;> simp
    by_cases h2 : m.att < c
    · rw [if_pos (by omega), if_pos h2]
    · rw [if_neg (by omega), if_neg h2]
      simp
  · simp only [h1, if_false]
    cases b <;> simp
    by_cases h2 : m.att < e
    · rw [if_pos (by omega), if_pos h2]
    · rw [if_neg (by omega), if_neg h2]
      simp
theorem rmatch_iff (q : Key × Ent) (m : Msg) : rmatch (toRef q) m = true ↔ q.1 = (m.inst, m.turn) := by
  obtain ⟨⟨a, b⟩, x⟩ := q
  unfold rmatch toRef
  rw [Bool.and_eq_true, decide_eq_true_iff, decide_eq_true_iff, Prod.mk.injEq]
theorem atk_none (L : List S100) (m : Msg) : ∀ k, k ≤ L.length → (∀ j, j < k → rmatch (L.getD j z100) m = false) → atk L m k = L.length
  | 0, _, _ => rfl
  | k + 1, hk, h => by
    unfold atk
    rw [if_neg (by rw [h k (by omega)]; simp)]
    exact atk_none L m k (by omega) (fun j hj => h j (by omega))
theorem atk_some (L : List S100) (m : Msg) (j : Nat) (hj : rmatch (L.getD j z100) m = true) : ∀ k, k ≤ L.length → j < k → (∀ i, i < k → i ≠ j → rmatch (L.getD i z100) m = false) → atk L m k = j
  | 0, _, h, _ => by omega
  | k + 1, hk, h, hn => by
    unfold atk
    by_cases e : k = j
    · subst e; rw [if_pos hj]
    · rw [if_neg (by rw [hn k (by omega) e]; simp)]
      exact atk_some L m j hj k (by omega) (by omega) (fun i hi => hn i (by omega))
theorem getD_map (l : List (Key × Ent)) (j : Nat) (h : j < l.length) : (l.map toRef).getD j z100 = toRef l[j] := by
  simp [List.getD_eq_getElem?_getD, h]
theorem mlook_index {κ α : Type} [DecidableEq κ] {l : List (κ × α)} {k : κ} {x : α} (h : mlook l k = some x) : ∃ j : Nat, l[j]? = some (k, x) := List.getElem?_of_mem (mlook_mem h)
theorem sim_take {S : St} (hn : (S.L.map (·.1)).Nodup) (hl : S.L.length ≤ 200) (m : Msg) (acc : Bool) :
    rtake (S.L.map toRef) (S.E.map effR) m acc = (((take S m acc).1.L.map toRef, (take S m acc).1.E.map effR), (take S m acc).2.1, (take S m acc).2.2) := by
  unfold rtake take
  by_cases ht : takes m = true
  · rw [if_pos ht, if_pos ht]
    cases hk : mlook S.L (m.inst, m.turn) with
    | none =>
      have hnone := mlook_none.1 hk
      have hat : rat (S.L.map toRef) m = S.L.length := by
        unfold rat
        rw [atk_none _ _ _ (Nat.le_refl _) (fun j hj => ?_), List.length_map]
        rw [List.length_map] at hj
        rw [getD_map _ _ hj]
        have := hnone _ (List.getElem_mem hj)
        cases hm : rmatch (toRef S.L[j]) m with
        | false => rfl
        | true => exact absurd ((rmatch_iff _ _).1 hm) this
      have hf : found S (m.inst, m.turn) = if S.L.length < 200 then some ent0 else none := by unfold found; rw [hk]
      rw [hat, hf]
      by_cases h2 : S.L.length = 200
      · rw [if_pos h2, if_neg (show ¬ S.L.length < 200 by omega)]
      · rw [if_neg h2, if_pos (show S.L.length < 200 by omega)]
        have hold : rold (S.L.map toRef) m = toRef ((m.inst, m.turn), ent0) := by
          unfold rold
          rw [hat, List.length_map, if_neg (Nat.lt_irrefl _)]
          rfl
        rw [hold, rent_act]
        have hput : rput (S.L.map toRef) S.L.length (toRef ((m.inst, m.turn), (act m ent0 acc).1)) = (mput S.L (m.inst, m.turn) (act m ent0 acc).1).map toRef := by
          rw [mput_new _ hnone]
          unfold rput
          rw [List.length_map, if_neg (by omega), List.append_nil, List.take_of_length_le (by simp), List.map_append]
          rfl
        simp only [hput]
        cases (act m ent0 acc).2.2 <;> simp
    | some x =>
      obtain ⟨j, hj⟩ := mlook_index hk
      have hjl : j < S.L.length := (List.getElem?_eq_some_iff.1 hj).1
      have hje : S.L[j] = ((m.inst, m.turn), x) := (List.getElem?_eq_some_iff.1 hj).2
      have hat : rat (S.L.map toRef) m = j := by
        unfold rat
        refine atk_some _ _ j ?_ _ (Nat.le_refl _) (by simpa using hjl) (fun i hi hij => ?_)
        · rw [getD_map _ _ hjl, rmatch_iff, hje]
        · rw [List.length_map] at hi
          rw [getD_map _ _ hi]
          cases hm : rmatch (toRef S.L[i]) m with
          | false => rfl
          | true =>
            refine absurd ?_ hij
            have h1 := (rmatch_iff _ _).1 hm
            have h2 : (S.L.map (·.1))[i]? = (S.L.map (·.1))[j]? := by
              rw [List.getElem?_map, List.getElem?_map, List.getElem?_eq_getElem hi, hj]
              simp [h1]
            exact (List.getElem?_inj (by simpa using hi) hn).1 h2
      have hf : found S (m.inst, m.turn) = some x := by unfold found; rw [hk]
      rw [hat, hf, if_neg (by omega)]
      have hold : rold (S.L.map toRef) m = toRef ((m.inst, m.turn), x) := by
        unfold rold
        rw [hat, List.length_map, if_pos hjl, getD_map _ _ hjl, hje]
      rw [hold, rent_act]
      have hput : rput (S.L.map toRef) j (toRef ((m.inst, m.turn), (act m x acc).1)) = (mput S.L (m.inst, m.turn) (act m x acc).1).map toRef := by
        rw [mput_at hn hj]
        unfold rput
        rw [List.length_map, if_pos hjl, List.map_set, List.set_eq_take_append_cons_drop, if_pos (by simpa using hjl)]
        simp
      simp only [hput]
      cases (act m x acc).2.2 <;> simp
  · rw [if_neg ht, if_neg ht]
end Go.Proofs.Ytdglbiafpofeeaa.Led
