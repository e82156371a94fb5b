/- The program's functions of trees, as they are printed, and what they reckon. -/
import Derived.Test.YtjghlomkimoeoaaTr4
import Derived.Test.YtjghlomkimoeoaaPConfigAsksx
namespace Go.Proofs.Ytjghlomkimoeoaa.Tr
open Go.RowKit Go.Proofs.YtjghlomkimoeoaaW.PrintWords Go.Proofs.YtjghlomkimoeoaaW.PrintLast Go.Proofs.YtjghlomkimoeoaaW.PrintMore Go.Proofs.Ytjghlomkimoeoaa.PConfigAsks
set_option linter.unusedVariables false
set_option linter.unusedSimpArgs false
def sh (l : List S86) : Sh := ⟨l.length, fun i => (rd_T86 l i).f1, fun i => (rd_T86 l i).f2, fun i => (rd_T86 l i).f3, fun i => (rd_T86 l i).f6, fun i => (rd_T86 l i).f4⟩
def ints (st : List Nat) : List Int := st.reverse.map (fun (x : Nat) => (x : Int))
theorem ints_len (st : List Nat) : (ints st).length = st.length := by simp [ints]
theorem ints_cons (x : Nat) (st : List Nat) : ints st ++ [(x : Int)] = ints (x :: st) := by simp [ints]
theorem rd_last (x : Nat) (st : List Nat) : rd (ints (x :: st)) (st.length : Int) = x := by
  rw [← ints_cons]
  unfold rd
  rw [Int.toNat_natCast, List.getD_eq_getElem?_getD, List.getElem?_append_right (by rw [ints_len]; exact Nat.le_refl _), ints_len, Nat.sub_self]
  rfl
theorem take_last (x : Nat) (st : List Nat) : (ints (x :: st)).take st.length = ints st := by
  rw [← ints_cons, List.take_append_of_le_length (by rw [ints_len]; exact Nat.le_refl _), List.take_of_length_le (by rw [ints_len]; exact Nat.le_refl _)]
theorem wsucc {i : Nat} (h : i ≤ 1000000) : wrap64 ((i : Int) + 1) = ((i + 1 : Nat) : Int) := by unfold wrap64; omega
theorem wpred {i : Nat} (h : i ≤ 1000000) : wrap64 (((i + 1 : Nat) : Int) - 1) = (i : Int) := by unfold wrap64; omega
theorem fin_step (l : List S86) (i : Nat) (hn : i < 40) (st : List Nat) (hst : st.length ≤ i) (b : Bool) (ih : Ev (fun k => tree_Formed.l0 k l (ints (i :: st)) l (l.length : Int) ((i + 1 : Nat) : Int)) b) :
    Ev (fun k => tree_Formed.j2 k l (ints st) (i : Int) l (l.length : Int) (i : Int) false (rd_T86 l i).f0 (rd_T86 l i).f1 (rd_T86 l i).f2 (rd_T86 l i).f3 (rd_T86 l i).f4 (rd_T86 l i).f5 (rd_T86 l i).f6)
      (if (st = [] ∧ (sh l).par i ≠ -1) ∨ (sh l).dep i ≠ st.length ∨ (sh l).leaf i ≠ decide ((sh l).beh i = i + 1) then false else b) := by
  obtain ⟨K, hK⟩ := ih
  dsimp only at hK
  refine ⟨K + 1, fun k hk => ?_⟩
  obtain ⟨k, rfl⟩ : ∃ m, k = m + 1 := ⟨k - 1, by omega⟩
  dsimp only
  have hl : (ints st).length = st.length := ints_len st
  show tree_Formed.j2 (k + 1) _ _ _ _ _ _ _ _ _ _ _ _ _ _ = some (if (st = [] ∧ (rd_T86 l i).f1 ≠ -1) ∨ (rd_T86 l i).f2 ≠ st.length ∨ (rd_T86 l i).f6 ≠ decide ((rd_T86 l i).f3 = i + 1) then false else b)
  rw [tree_Formed.j2, if_neg (by decide), wsucc (by omega), hl, ints_cons, hK k (by omega)]
  generalize (rd_T86 l i).f1 = p
  generalize (rd_T86 l i).f2 = q
  generalize (rd_T86 l i).f3 = e
  generalize (rd_T86 l i).f6 = f
  have hlt : st.length < 17592186044416 := by omega
  have he : (e == ((i + 1 : Nat) : Int)) = decide (e = (i : Int) + 1) := by
    rw [show ((i + 1 : Nat) : Int) = (i : Int) + 1 from by omega]
    by_cases h : e = (i : Int) + 1
    · simp [h]
    · simp [h]
  rw [he]
  generalize decide (e = (i : Int) + 1) = g
  have hz : ((st.length : Int) = 0) ↔ st = [] := by
    rw [← List.length_eq_zero_iff]
    omega
  by_cases c1 : st = []
  · have c1' := hz.mpr c1
    by_cases c2 : p = -1 <;> by_cases c3 : q = (st.length : Int) <;> cases f <;> cases g <;> simp_all
  · have c1' : ¬ ((st.length : Int) = 0) := fun h => c1 (hz.mp h)
    rw [if_neg c1']
    by_cases c3 : q = (st.length : Int) <;> cases f <;> cases g <;> simp_all
theorem pop_all (l : List S86) (i d : Nat) (hi : i < l.length) (hn : i < 40) (ih : ∀ st : List Nat, st.length ≤ i → (∀ x ∈ st, x < i) → Ev (fun k => tree_Formed.l0 k l (ints (i :: st)) l (l.length : Int) ((i + 1 : Nat) : Int)) (fgo (sh l) d (i + 1) (i :: st))) :
    ∀ st : List Nat, st.length ≤ i → (∀ x ∈ st, x < i) →
    Ev (fun k => tree_Formed.l1 k l (ints st) (i : Int) l (l.length : Int) (i : Int) (rd_T86 l i).f0 (rd_T86 l i).f1 (rd_T86 l i).f2 (rd_T86 l i).f3 (rd_T86 l i).f4 (rd_T86 l i).f5 (rd_T86 l i).f6)
      (match pops (sh l) i ((sh l).par i) st with
       | none => false
       | some st' => if (st' = [] ∧ (sh l).par i ≠ -1) ∨ (sh l).dep i ≠ st'.length ∨ (sh l).leaf i ≠ decide ((sh l).beh i = i + 1) then false else fgo (sh l) d (i + 1) (i :: st'))
  | [], h1, h2 => by
    obtain ⟨K, hK⟩ := fin_step l i hn [] h1 _ (ih [] h1 h2)
    refine ⟨K + 1, fun k hk => ?_⟩
    obtain ⟨k, rfl⟩ : ∃ m, k = m + 1 := ⟨k - 1, by omega⟩
    dsimp only
    rw [tree_Formed.l1, if_neg (by rw [ints_len]; decide)]
    exact hK k (by omega)
  | x :: st, h1, h2 => by
    have hx := h2 x (List.mem_cons_self ..)
    have hl : (ints (x :: st)).length = st.length + 1 := ints_len (x :: st)
    have hlen : st.length + 1 ≤ i := h1
    have hpar : (sh l).par i = (rd_T86 l i).f1 := rfl
    by_cases hp : (x : Int) = (rd_T86 l i).f1
    · obtain ⟨K, hK⟩ := fin_step l i hn (x :: st) h1 _ (ih (x :: st) h1 h2)
      refine ⟨K + 1, fun k hk => ?_⟩
      obtain ⟨k, rfl⟩ : ∃ m, k = m + 1 := ⟨k - 1, by omega⟩
      dsimp only
      have hb : ((x : Int) != (rd_T86 l i).f1) = false := by simp [hp]
      rw [tree_Formed.l1, hl, wpred (by omega), rd_last, if_pos (by omega), if_pos (by omega), if_pos (by omega), hb]
      have hpo : pops (sh l) i ((sh l).par i) (x :: st) = some (x :: st) := by
        unfold pops
        rw [hpar, if_pos hp]
      rw [hpo]
      exact hK k (by omega)
    · have hb : ((x : Int) != (rd_T86 l i).f1) = true := by simp [hp]
      by_cases hbe : (rd_T86 l x).f3 = (i : Int)
      · obtain ⟨K, hK⟩ := pop_all l i d hi hn ih st (by omega) fun y hy => h2 y (List.mem_cons_of_mem _ hy)
        refine ⟨K + 2, fun k hk => ?_⟩
        obtain ⟨k, rfl⟩ : ∃ m, k = m + 2 := ⟨k - 2, by omega⟩
        dsimp only
        rw [tree_Formed.l1, hl, wpred (by omega), rd_last, if_pos (by omega), if_pos (by omega), if_pos (by omega), hb, tree_Formed.j2, if_pos rfl, hl, wpred (by omega), rd_last, if_pos (by omega), if_pos (by omega), if_pos (by omega), if_pos (by omega), if_pos hbe, if_pos (by omega), Int.toNat_natCast, take_last]
        have hpo : pops (sh l) i ((sh l).par i) (x :: st) = pops (sh l) i ((sh l).par i) st := by
          rw [pops, hpar, if_neg hp, if_pos (show (sh l).beh x = i from hbe)]
        rw [hpo]
        exact hK k (by omega)
      · refine ⟨2, fun k hk => ?_⟩
        obtain ⟨k, rfl⟩ : ∃ m, k = m + 2 := ⟨k - 2, by omega⟩
        dsimp only
        rw [tree_Formed.l1, hl, wpred (by omega), rd_last, if_pos (by omega), if_pos (by omega), if_pos (by omega), hb, tree_Formed.j2, if_pos rfl, hl, wpred (by omega), rd_last, if_pos (by omega), if_pos (by omega), if_pos (by omega), if_pos (by omega), if_neg hbe]
        have hpo : pops (sh l) i ((sh l).par i) (x :: st) = none := by
          rw [pops, hpar, if_neg hp, if_neg (show ¬ (sh l).beh x = i from hbe)]
        rw [hpo]
theorem all_drop (l : List S86) (row : List Int) (hr : ∀ x ∈ row, 0 ≤ x ∧ x < (l.length : Int)) (hlen : row.length ≤ 1000) : ∀ d j : Nat, j + d = row.length →
    Ev (fun k => tree_Formed.l2 k l row (row.length : Int) (j : Int)) ((row.drop j).all fun x => decide ((rd_T86 l x).f3 = (l.length : Int)))
  | 0, j, hd => by
    refine ⟨1, fun k hk => ?_⟩
    obtain ⟨k, rfl⟩ : ∃ m, k = m + 1 := ⟨k - 1, by omega⟩
    dsimp only
    rw [tree_Formed.l2, if_neg (by omega), List.drop_eq_nil_of_le (by omega)]
    rfl
  | d + 1, j, hd => by
    have hj : j < row.length := by omega
    have hrd : rd row (j : Int) = row[j] := by simp [rd, List.getD_eq_getElem?_getD, hj]
    obtain ⟨h0, h1⟩ := hr row[j] (List.getElem_mem hj)
    rw [List.drop_eq_getElem_cons hj, List.all_cons]
    by_cases hc : (rd_T86 l row[j]).f3 = (l.length : Int)
    · obtain ⟨K, hK⟩ := all_drop l row hr hlen d (j + 1) (by omega)
      dsimp only at hK
      refine ⟨K + 1, fun k hk => ?_⟩
      obtain ⟨k, rfl⟩ : ∃ m, k = m + 1 := ⟨k - 1, by omega⟩
      dsimp only
      rw [tree_Formed.l2, hrd, if_pos (by omega), if_pos (by omega), if_pos (by omega), if_pos h0, if_pos h1, if_pos hc, wsucc (by omega), hK k (by omega), decide_eq_true hc, Bool.true_and]
    · refine ⟨1, fun k hk => ?_⟩
      obtain ⟨k, rfl⟩ : ∃ m, k = m + 1 := ⟨k - 1, by omega⟩
      dsimp only
      rw [tree_Formed.l2, hrd, if_pos (by omega), if_pos (by omega), if_pos (by omega), if_pos h0, if_pos h1, if_neg hc, decide_eq_false hc, Bool.false_and]
theorem formed_from (l : List S86) (hn : l.length ≤ 40) : ∀ (d i : Nat) (st : List Nat), i + d = l.length → st.length ≤ i → (∀ x ∈ st, x < i) →
    Ev (fun k => tree_Formed.l0 k l (ints st) l (l.length : Int) (i : Int)) (fgo (sh l) d i st)
  | 0, i, st, hd, h1, h2 => by
    obtain ⟨K, hK⟩ := all_drop l (ints st) (fun x hx => by
      unfold ints at hx
      obtain ⟨y, hy, rfl⟩ := List.mem_map.mp hx
      have := h2 y (List.mem_reverse.mp hy)
      omega) (by rw [ints_len]; omega) (ints st).length 0 (by omega)
    refine ⟨K + 1, fun k hk => ?_⟩
    obtain ⟨k, rfl⟩ : ∃ m, k = m + 1 := ⟨k - 1, by omega⟩
    dsimp only
    rw [tree_Formed.l0, if_neg (by omega)]
    refine (hK k (by omega)).trans ?_
    unfold fgo
    rw [List.drop_zero]
    unfold ints
    rw [List.all_map, List.all_reverse]
    rfl
  | d + 1, i, st, hd, h1, h2 => by
    obtain ⟨K, hK⟩ := pop_all l i d (by omega) (by omega) (fun st' k1 k2 => formed_from l hn d (i + 1) (i :: st') (by omega) (by rw [List.length_cons]; omega) fun x hx => by
      rcases List.mem_cons.mp hx with rfl | hx
      · omega
      · have := k2 x hx
        omega) st h1 h2
    refine ⟨K + 1, fun k hk => ?_⟩
    obtain ⟨k, rfl⟩ : ∃ m, k = m + 1 := ⟨k - 1, by omega⟩
    dsimp only
    rw [tree_Formed.l0, if_pos (by omega), if_pos (by omega), if_pos (by omega)]
    exact hK k (by omega)
theorem Formed_ev (l : List S86) : Ev (fun k => tree_Formed.f k l) (formedB (sh l)) := by
  unfold formedB
  by_cases h : 40 < l.length
  · rw [if_pos (show 40 < (sh l).n from h)]
    refine ⟨0, fun k _ => ?_⟩
    show tree_Formed.f k l = _
    unfold tree_Formed.f
    rw [if_pos (by omega)]
  · rw [if_neg (show ¬ 40 < (sh l).n from h)]
    obtain ⟨K, hK⟩ := formed_from l (by omega) l.length 0 [] (by omega) (Nat.le_refl _) (fun x hx => by cases hx)
    refine ⟨K, fun k hk => ?_⟩
    show tree_Formed.f k l = _
    unfold tree_Formed.f
    rw [if_neg (by omega)]
    exact hK k hk
end Go.Proofs.Ytjghlomkimoeoaa.Tr
