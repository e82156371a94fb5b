/- The names of an expression: in order, once each. -/
import Derived.Test.YtdhlbhkpleoicaaDoorExEval
import Derived.Test.YtdhlbhkpleoicaaDoorExAdd
import Derived.Sort.KeysCollected
import Derived.Sort.Walk0
namespace Go.Proofs.YtdhlbhkpleoicaaDoor.Exp
open Go.RowKit Go.Proofs.YtdhlbhkpleoicaaDoorW.PrintWords Go.Proofs.YtdhlbhkpleoicaaDoorW.PrintLast Go.Proofs.YtdhlbhkpleoicaaDoorW.PrintMore Go.Proofs.YtdhlbhkpleoicaaDoor.PExprEvals
set_option linter.unusedVariables false
set_option linter.unusedSimpArgs false
def nms : Ex → List ByteArray
  | .ref s => [s]
  | .not x => nms x
  | .neg x => nms x
  | .bin _ l r => nms l ++ nms r
  | _ => []
/-- A name into rising ones, once. -/
def adds : List ByteArray → ByteArray → List ByteArray
  | [], s => [s]
  | x :: r, s => if x.toList < s.toList then x :: adds r s else if x = s then x :: r else s :: x :: r
/-- A name behind those that came before, once. -/
def has (l : List ByteArray) (s : ByteArray) : Bool := l.any fun x => decide (x = s)
theorem has_iff (l : List ByteArray) (s : ByteArray) : has l s = true ↔ s ∈ l := by
  unfold has
  rw [List.any_eq_true]
  exact ⟨fun ⟨x, h, e⟩ => by rw [decide_eq_true_eq] at e; exact e ▸ h, fun h => ⟨s, h, decide_eq_true rfl⟩⟩
def addk (l : List ByteArray) (s : ByteArray) : List ByteArray := if has l s = true then l else l ++ [s]
def Rising (l : List ByteArray) : Prop := l.Pairwise fun a b => a.toList < b.toList
theorem lt_of_not {a b : ByteArray} (h1 : ¬ a.toList < b.toList) (h2 : a ≠ b) : b.toList < a.toList := by
  have h3 : b.toList ≤ a.toList := List.not_lt.1 h1
  by_cases h : b.toList < a.toList
  · exact h
  · exact absurd ((bytes_iff _ _).1 (List.le_antisymm (List.not_lt.1 h) h3)) h2
theorem adds_cons (x : ByteArray) (r : List ByteArray) (s : ByteArray) : adds (x :: r) s = if x.toList < s.toList then x :: adds r s else if x = s then x :: r else s :: x :: r := by rw [adds]
theorem adds_mem (l : List ByteArray) (s y : ByteArray) : y ∈ adds l s ↔ y = s ∨ y ∈ l := by
  induction l with
  | nil => simp [adds]
  | cons x r ih =>
    unfold adds
    split
    · rw [List.mem_cons, ih, List.mem_cons]
      constructor
      · rintro (h | h | h)
        · exact .inr (.inl h)
        · exact .inl h
        · exact .inr (.inr h)
      · rintro (h | h | h)
        · exact .inr (.inl h)
        · exact .inl h
        · exact .inr (.inr h)
    · split
      · rename_i h
        subst h
        rw [List.mem_cons]
        constructor
        · intro h; exact .inr h
        · rintro (h | h)
          · exact .inl h
          · exact h
      · rw [List.mem_cons]
theorem adds_rising : ∀ (l : List ByteArray) (s : ByteArray), Rising l → Rising (adds l s)
  | [], s, _ => List.pairwise_singleton _ _
  | x :: r, s, h => by
    have h' := List.pairwise_cons.1 h
    unfold adds
    split
    · rename_i h1
      refine List.pairwise_cons.2 ⟨fun y hy => ?_, adds_rising r s h'.2⟩
      rcases (adds_mem r s y).1 hy with rfl | hy
      · exact h1
      · exact h'.1 y hy
    · rename_i h1
      split
      · exact h
      · rename_i h2
        have h3 := lt_of_not h1 h2
        refine List.pairwise_cons.2 ⟨fun y hy => ?_, h⟩
        rcases List.mem_cons.1 hy with rfl | hy
        · exact h3
        · exact List.lt_trans h3 (h'.1 y hy)
theorem Rising.nodup {l : List ByteArray} (h : Rising l) : l.Nodup :=
  h.imp fun {a b} hab e => by subst e; exact List.lt_irrefl _ hab
theorem addk_mem (l : List ByteArray) (s y : ByteArray) : y ∈ addk l s ↔ y = s ∨ y ∈ l := by
  unfold addk
  by_cases h0 : has l s = true
  · have h := (has_iff l s).1 h0
    rw [if_pos h0]
    constructor
    · intro h2; exact .inr h2
    · rintro (rfl | h2)
      · exact h
      · exact h2
  · rw [if_neg h0, List.mem_append, List.mem_singleton]
    exact ⟨fun h => h.symm, fun h => h.symm⟩
theorem addk_nodup {l : List ByteArray} (s : ByteArray) (h : l.Nodup) : (addk l s).Nodup := by
  unfold addk
  by_cases h0 : has l s = true
  · rw [if_pos h0]; exact h
  · have hs : ¬ s ∈ l := fun hm => h0 ((has_iff l s).2 hm)
    rw [if_neg h0]
    refine List.nodup_append.2 ⟨h, List.pairwise_singleton _ _, fun a ha b hb => ?_⟩
    rw [List.mem_singleton] at hb
    subst hb
    intro e
    subst e
    exact hs ha
theorem fold_both : ∀ (ns l k : List ByteArray), Rising l → k.Nodup → (∀ y, y ∈ l ↔ y ∈ k) → Rising (ns.foldl adds l) ∧ (ns.foldl addk k).Nodup ∧ ∀ y, y ∈ ns.foldl adds l ↔ y ∈ ns.foldl addk k
  | [], l, k, h1, h2, h3 => ⟨h1, h2, h3⟩
  | s :: ns, l, k, h1, h2, h3 => by
    rw [List.foldl_cons, List.foldl_cons]
    exact fold_both ns _ _ (adds_rising l s h1) (addk_nodup s h2) (fun y => by rw [adds_mem, addk_mem, h3])
/-- The names, rising. -/
def nsort (x : Ex) : List ByteArray := (nms x).foldl adds []
/-- The names, as they came. -/
def ncame (x : Ex) : List ByteArray := (nms x).foldl addk []
theorem names_both (x : Ex) : Rising (nsort x) ∧ (ncame x).Nodup ∧ ∀ y, y ∈ nsort x ↔ y ∈ ncame x :=
  fold_both (nms x) [] [] List.Pairwise.nil List.nodup_nil (fun _ => Iff.rfl)
theorem fold_adds_mem : ∀ (ns l : List ByteArray) (y : ByteArray), y ∈ ns.foldl adds l ↔ y ∈ ns ∨ y ∈ l
  | [], l, y => by simp
  | s :: ns, l, y => by
    rw [List.foldl_cons, fold_adds_mem ns, adds_mem, List.mem_cons]
    constructor
    · rintro (h | h | h)
      · exact .inl (.inr h)
      · exact .inl (.inl h)
      · exact .inr h
    · rintro ((h | h) | h)
      · exact .inr (.inl h)
      · exact .inl h
      · exact .inr (.inr h)
theorem nsort_mem (x : Ex) (y : ByteArray) : y ∈ nsort x ↔ y ∈ nms x := by
  unfold nsort
  rw [fold_adds_mem]
  simp
theorem names_perm (x : Ex) : (nsort x).Perm (ncame x) :=
  (List.perm_ext_iff_of_nodup (names_both x).1.nodup (names_both x).2.1).2 (names_both x).2.2
/-- What comes of a sort of the names. -/
theorem names_sorted (x : Ex) : ((ncame x).map ByteArray.toList).mergeSort leB = (nsort x).map ByteArray.toList := by
  rw [mergeSort_of_perm ((names_perm x).symm.map ByteArray.toList)]
  refine List.mergeSort_of_pairwise ?_
  rw [List.pairwise_map]
  refine (names_both x).1.imp fun {a b} h => ?_
  simp only [leB, decide_eq_true_eq]
  exact List.le_of_lt h
theorem adds_len (l : List ByteArray) (s : ByteArray) : (adds l s).length ≤ l.length + 1 := by
  induction l with
  | nil => simp [adds]
  | cons x r ih =>
    unfold adds
    split
    · simp only [List.length_cons]; omega
    · split
      · simp only [List.length_cons]; omega
      · simp only [List.length_cons]; omega
theorem add_l0 (l : List ByteArray) (s : ByteArray) (hl : l.length ≤ 100000) : ∀ (d i : Nat), l.length ≤ i + d → i ≤ l.length → ∃ K, ∀ k, K ≤ k → tumbrelref04_add.l0 k l s (i : Int) = some (l.take i ++ adds (l.drop i) s)
  | d, i, h1, h2 => by
    by_cases hlt : i < l.length
    · cases d with
      | zero => omega
      | succ d =>
        have hrd : rdOf ByteArray.empty l (i : Int) = l[i] := by simp [rdOf, List.getD_eq_getElem?_getD, hlt]
        have hdr : l.drop i = l[i] :: l.drop (i + 1) := List.drop_eq_getElem_cons hlt
        by_cases hless : l[i].toList < s.toList
        · obtain ⟨K, hK⟩ := add_l0 l s hl d (i + 1) (by omega) (by omega)
          refine ⟨K + 1, fun k hk => ?_⟩
          obtain ⟨k, rfl⟩ : ∃ m, k = m + 1 := ⟨k - 1, by omega⟩
          rw [tumbrelref04_add.l0, if_pos (by omega), if_pos (by omega), hrd, bytesLess_eq, if_pos (decide_eq_true hless), show wrap64 ((i : Int) + 1) = ((i + 1 : Nat) : Int) from by unfold wrap64; omega, hK k (by omega), hdr]
          rw [adds_cons, if_pos hless, List.take_succ_eq_append_getElem hlt, List.append_assoc]
          rfl
        · refine ⟨1, fun k hk => ?_⟩
          obtain ⟨k, rfl⟩ : ∃ m, k = m + 1 := ⟨k - 1, by omega⟩
          have hnot : ¬ (decide (l[i].toList < s.toList) = true) := by rw [decide_eq_true_eq]; exact hless
          rw [tumbrelref04_add.l0, if_pos (by omega), if_pos (by omega), hrd, bytesLess_eq, if_neg hnot]
          by_cases he : l[i] = s
          · rw [if_pos (by rw [he]), hdr]
            rw [adds_cons, if_neg hless, if_pos he, ← hdr, List.take_append_drop]
          · have hi : ((i : Int)).toNat = i := by simp
            have hln : (l.take i).length = i := by rw [List.length_take]; omega
            have hld : (l.drop i).length = l.length - i := by rw [List.length_drop]
            rw [if_neg (fun h => he ((bytes_iff _ _).1 h)), if_pos (by omega), hi, Option.bind_some, if_pos (by simp only [List.length_nil]; omega), Option.bind_some, List.nil_append, if_pos (by omega), Option.bind_some, Option.bind_some, if_pos (by rw [List.length_append, List.length_singleton]; omega)]
            rw [hdr]
            rw [adds_cons, if_neg hless, if_neg he, List.append_assoc]
            rfl
    · refine ⟨1, fun k hk => ?_⟩
      obtain ⟨k, rfl⟩ : ∃ m, k = m + 1 := ⟨k - 1, by omega⟩
      have hi : ((i : Int)).toNat = i := by simp
      have hln : (l.take i).length = i := by rw [List.length_take]; omega
      have hld : (l.drop i).length = l.length - i := by rw [List.length_drop]
      rw [tumbrelref04_add.l0, if_neg (by omega), if_pos (by omega), if_pos (by omega), hi, Option.bind_some, if_pos (by simp only [List.length_nil]; omega), Option.bind_some, List.nil_append, if_pos (by omega), Option.bind_some, Option.bind_some, if_pos (by rw [List.length_append, List.length_singleton]; omega)]
      rw [show l.drop i = [] by rw [show i = l.length by omega, List.drop_length]]
      simp [adds]
termination_by d => d
theorem add_tot (l : List ByteArray) (s : ByteArray) (hl : l.length ≤ 100000) : ∃ K, tumbrelref04_add.f K l s = some (adds l s) := by
  obtain ⟨K, hK⟩ := add_l0 l s hl l.length 0 (by omega) (by omega)
  exact ⟨K, (hK K (Nat.le_refl _)).trans (by simp)⟩
/-! ### what the other variables are to it -/
def lookF (vs : List S46) (s : ByteArray) : Int × Int :=
  match vs.find? (fun v => decide (v.f0 = s)) with
  | none => (0, 5)
  | some v => (v.f1, bnd v.f1)
theorem findV_shift (s : ByteArray) : ∀ (L : List S46) (i : Nat), findV s L (i + 1) = if findV s L i < 0 then -1 else findV s L i + 1
  | [], i => by simp [findV]
  | x :: r, i => by
    unfold findV
    split
    · rw [if_neg (by omega)]
      omega
    · exact findV_shift s r (i + 1)
theorem look_cons (v : S46) (vs : List S46) (s : ByteArray) : look (v :: vs) s = if decide (v.f0 = s) = true then (v.f1, bnd v.f1) else look vs s := by
  unfold look
  simp only []
  by_cases h : decide (v.f0 = s) = true
  · have : findV s (v :: vs) 0 = 0 := by unfold findV; rw [if_pos h]; rfl
    rw [this, if_pos h, if_neg (by decide)]
    rfl
  · have e : findV s (v :: vs) 0 = findV s vs 1 := by
      conv => lhs; unfold findV
      rw [if_neg h]
    rw [e, findV_shift, if_neg h]
    have hr := findV_range s vs 0
    by_cases h0 : findV s vs 0 < 0
    · rw [if_pos h0, if_pos (by decide), if_pos h0]
    · rw [if_neg h0, if_neg (by omega), if_neg h0]
      have hrd : rd_T46 (v :: vs) (findV s vs 0 + 1) = rd_T46 vs (findV s vs 0) := by
        unfold rd_T46
        rw [show (findV s vs 0 + 1).toNat = (findV s vs 0).toNat + 1 by omega]
        rfl
      rw [hrd]
theorem look_filter (vs : List S46) (p : S46 → Bool) (s : ByteArray) (h : ∀ v : S46, v.f0 = s → p v = true) : look (vs.filter p) s = look vs s := by
  induction vs with
  | nil => rfl
  | cons v vs ih =>
    rw [look_cons]
    by_cases hv : v.f0 = s
    · rw [List.filter_cons_of_pos (h v hv), look_cons, if_pos (decide_eq_true hv), if_pos (decide_eq_true hv)]
    · have hd : ¬ (decide (v.f0 = s) = true) := by rw [decide_eq_true_eq]; exact hv
      rw [if_neg hd, ← ih]
      by_cases hp : p v = true
      · rw [List.filter_cons_of_pos hp, look_cons, if_neg hd]
      · rw [List.filter_cons_of_neg hp]
end Go.Proofs.YtdhlbhkpleoicaaDoor.Exp
