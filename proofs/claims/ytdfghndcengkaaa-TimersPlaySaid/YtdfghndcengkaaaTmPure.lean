/- Timers and the document's timers as plain data, and how they answer. -/
import Derived.Test.YtdfghndcengkaaaAmap
import Derived.Test.YtdfghndcengkaaaFrames
import Derived.Sort.Walk0
import Derived.Sort.LotA
namespace Go.Proofs.Ytdfghndcengkaaa.Tmr
open Go.RowKit Go.Proofs.YtdfghndcengkaaaW.PrintWords Go.Proofs.YtdfghndcengkaaaW.PrintLast Go.Proofs.YtdfghndcengkaaaW.PrintMore
open Amap
set_option linter.unusedVariables false
set_option linter.unusedSimpArgs false
abbrev Tm := ByteArray × Int
abbrev Tms := List Tm
/-! ### the order -/
def kless (a b : ByteArray) : Bool := Op.bytesLess a.toList b.toList
theorem kless_iff (a b : ByteArray) : kless a b = true ↔ a.toList < b.toList := by unfold kless; rw [bytesLess_eq]; simp
theorem toList_inj {a b : ByteArray} (h : a.toList = b.toList) : a = b := by
  have h1 : a.data.toList = b.data.toList := by
    rw [← Lib.toList_data, ← Lib.toList_data]
    exact h
  apply ByteArray.ext
  exact Array.toList_inj.1 h1
/-- As they are due, of as early ones by the keys. -/
def tlt (x y : Tm) : Prop := x.2 < y.2 ∨ (x.2 = y.2 ∧ x.1.toList < y.1.toList)
instance (x y : Tm) : Decidable (tlt x y) := by unfold tlt; exact inferInstance
theorem tlt_irrefl (x : Tm) : ¬ tlt x x := fun h => by
  rcases h with h | ⟨_, h⟩
  · omega
  · exact List.lt_irrefl _ h
theorem tlt_trans {x y z : Tm} (h : tlt x y) (k : tlt y z) : tlt x z := by
  rcases h with h | ⟨h1, h2⟩
  · rcases k with k | ⟨k1, k2⟩
    · exact .inl (by omega)
    · exact .inl (by omega)
  · rcases k with k | ⟨k1, k2⟩
    · exact .inl (by omega)
    · exact .inr ⟨by omega, List.lt_trans h2 k2⟩
theorem tlt_total {x y : Tm} (h : ¬ tlt x y) (k : ¬ tlt y x) : x = y := by
  unfold tlt at h k
  have h1 : x.2 = y.2 := by omega
  have h2 : ¬ x.1.toList < y.1.toList := fun e => h (.inr ⟨h1, e⟩)
  have h3 : ¬ y.1.toList < x.1.toList := fun e => k (.inr ⟨h1.symm, e⟩)
  exact Prod.ext (toList_inj (List.le_antisymm (List.not_lt.1 h3) (List.not_lt.1 h2))) h1
def rises (L : Tms) : Prop := L.Pairwise tlt
def nd (L : Tms) : Prop := (L.map (·.1)).Nodup
/-! ### both -/
def tset (T : Tms) (k : ByteArray) (d : Int) : Tms := mput T k d
def rins : Tms → Tm → Tms
  | [], x => [x]
  | p :: m, x => if tlt p x then p :: rins m x else x :: p :: m
def rset (R : Tms) (k : ByteArray) (d : Int) : Tms := rins (mdel R k) (k, d)
def due (T : Tms) (k : ByteArray) : Int := (mlook T k).getD 0
def there (T : Tms) (k : ByteArray) : Bool := (mlook T k).isSome
def early (now : Int) (p : Tm) : Bool := decide (p.2 ≤ now)
def ttake (T : Tms) (now : Int) : Tms := T.filter (fun p => !early now p)
def rtake (R : Tms) (now : Int) : Tms := R.dropWhile (early now)
def rgone (R : Tms) (now : Int) : List ByteArray := (R.takeWhile (early now)).map (·.1)
/-! ### lists -/
theorem nd_perm {L M : Tms} (h : L.Perm M) (hn : nd L) : nd M := (h.map _).nodup_iff.1 hn
theorem look_mem {L : Tms} {n : ByteArray} {v : Int} (h : mlook L n = some v) : (n, v) ∈ L := by
  induction L with
  | nil => cases h
  | cons p m ih =>
    unfold mlook at h
    split at h
    · rename_i e
      obtain ⟨p1, p2⟩ := p
      cases h
      simp only [] at e
      subst e
      exact List.mem_cons_self ..
    · exact List.mem_cons_of_mem _ (ih h)
theorem mem_look {L : Tms} (hn : nd L) {n : ByteArray} {v : Int} (h : (n, v) ∈ L) : mlook L n = some v := by
  obtain ⟨j, hj⟩ := List.getElem?_of_mem h
  exact mlook_at hn hj
theorem look_perm {L M : Tms} (h : L.Perm M) (hn : nd L) (n : ByteArray) : mlook L n = mlook M n := by
  cases hl : mlook L n with
  | some v => exact (mem_look (nd_perm h hn) (h.mem_iff.1 (look_mem hl))).symm
  | none =>
    cases hm : mlook M n with
    | none => rfl
    | some v => rw [mem_look hn (h.mem_iff.2 (look_mem hm))] at hl; cases hl
def oth (n : ByteArray) (p : Tm) : Bool := !decide (p.1 = n)
theorem oth_none {L : Tms} {n : ByteArray} (h : ∀ p ∈ L, p.1 ≠ n) : L.filter (oth n) = L := List.filter_eq_self.2 (fun p hp => by simp [oth, h p hp])
theorem del_oth {L : Tms} (hn : nd L) (n : ByteArray) : mdel L n = L.filter (oth n) := by
  induction L with
  | nil => rfl
  | cons p m ih =>
    have hn' := List.nodup_cons.1 hn
    unfold mdel
    rw [List.filter_cons]
    split
    · rename_i e
      rw [if_neg (by simp [oth, e]), oth_none]
      intro q hq e2
      exact hn'.1 (List.mem_map.2 ⟨q, hq, e2.trans e.symm⟩)
    · rename_i e
      rw [if_pos (by simp [oth, e]), ih hn'.2]
theorem put_oth {L : Tms} (hn : nd L) (n : ByteArray) (v : Int) : (mput L n v).Perm ((n, v) :: L.filter (oth n)) := by
  induction L with
  | nil => exact List.Perm.refl _
  | cons p m ih =>
    have hn' := List.nodup_cons.1 hn
    unfold mput
    rw [List.filter_cons]
    split
    · rename_i e
      rw [if_neg (by simp [oth, e]), oth_none]
      intro q hq e2
      exact hn'.1 (List.mem_map.2 ⟨q, hq, e2.trans e.symm⟩)
    · rename_i e
      rw [if_pos (by simp [oth, e])]
      exact ((ih hn'.2).cons p).trans (List.Perm.swap _ _ _)
theorem ins_perm (L : Tms) (x : Tm) : (rins L x).Perm (x :: L) := by
  induction L with
  | nil => exact List.Perm.refl _
  | cons p m ih =>
    unfold rins
    split
    · exact (ih.cons p).trans (List.Perm.swap _ _ _)
    · exact List.Perm.refl _
theorem ins_rises {L : Tms} (h : rises L) (x : Tm) (hx : ∀ p ∈ L, p ≠ x) : rises (rins L x) := by
  induction L with
  | nil => simp [rins, rises]
  | cons p m ih =>
    have h' := List.pairwise_cons.1 h
    unfold rins
    split
    · rename_i e
      refine List.pairwise_cons.2 ⟨fun y hy => ?_, ih h'.2 (fun q hq => hx q (List.mem_cons_of_mem _ hq))⟩
      rcases List.mem_cons.1 ((ins_perm m x).mem_iff.1 hy) with rfl | hy
      · exact e
      · exact h'.1 y hy
    · rename_i e
      have e2 : tlt x p := by
        by_cases e3 : tlt x p
        · exact e3
        · exact absurd (tlt_total e e3) (hx p (List.mem_cons_self ..))
      refine List.pairwise_cons.2 ⟨fun y hy => ?_, h⟩
      rcases List.mem_cons.1 hy with rfl | hy
      · exact e2
      · exact tlt_trans e2 (h'.1 y hy)
theorem del_sub (L : Tms) (n : ByteArray) : List.Sublist (mdel L n) L := by
  induction L with
  | nil => exact List.Sublist.refl _
  | cons p m ih =>
    unfold mdel
    split
    · exact List.sublist_cons_self _ _
    · exact ih.cons_cons _
/-- What holds of both along a script. -/
structure Inv (n : Nat) (T R : Tms) : Prop where
  perm : T.Perm R
  nd : nd T
  up : rises R
  len : R.length ≤ n
theorem Inv.look {n : Nat} {T R : Tms} (h : Inv n T R) (k : ByteArray) : mlook R k = mlook T k := (look_perm h.perm h.nd k).symm
theorem Inv.le {n m : Nat} {T R : Tms} (h : Inv n T R) (hm : n ≤ m) : Inv m T R := ⟨h.perm, h.nd, h.up, Nat.le_trans h.len hm⟩
theorem Inv.new : Inv 0 [] [] := ⟨List.Perm.refl _, by simp [Tmr.nd], by simp [rises], Nat.le_refl _⟩
theorem Inv.stop {n : Nat} {T R : Tms} (h : Inv n T R) (k : ByteArray) : Inv n (mdel T k) (mdel R k) := by
  have hnR := nd_perm h.perm h.nd
  refine ⟨?_, List.Sublist.nodup ((del_sub T k).map _) h.nd, List.Pairwise.sublist (del_sub R k) h.up, Nat.le_trans (del_sub R k).length_le h.len⟩
  rw [del_oth h.nd, del_oth hnR]
  exact h.perm.filter _
theorem Inv.set {n : Nat} {T R : Tms} (h : Inv n T R) (k : ByteArray) (d : Int) : Inv (n + 1) (tset T k d) (rset R k d) := by
  have hnR := nd_perm h.perm h.nd
  have hp : (tset T k d).Perm (rset R k d) := by
    unfold tset rset
    refine (put_oth h.nd k d).trans (List.Perm.trans ?_ (ins_perm _ _).symm)
    rw [del_oth hnR]
    exact (h.perm.filter _).cons _
  have hno : ∀ p ∈ mdel R k, p.1 ≠ k := fun p hp => by
    rw [del_oth hnR] at hp
    have := (List.mem_filter.1 hp).2
    simpa [oth] using this
  refine ⟨hp, ?_, ins_rises (List.Pairwise.sublist (del_sub R k) h.up) _ (fun p hp e => hno p hp (by rw [e])), ?_⟩
  · refine nd_perm (put_oth h.nd k d).symm ?_
    refine List.nodup_cons.2 ⟨fun hm => ?_, List.Sublist.nodup ((List.filter_sublist).map _) h.nd⟩
    obtain ⟨q, hq, e⟩ := List.mem_map.1 hm
    have := (List.mem_filter.1 hq).2
    simp [oth] at this
    exact this e
  · have h1 := (ins_perm (mdel R k) (k, d)).length_eq
    have h2 := (del_sub R k).length_le
    have h3 := h.len
    unfold rset
    rw [h1, List.length_cons]
    omega
theorem early_down {now : Int} {x y : Tm} (h : tlt x y) (hy : early now y = true) : early now x = true := by
  unfold early at *
  simp only [decide_eq_true_eq] at *
  rcases h with h | h <;> omega
theorem take_filter {R : Tms} (h : rises R) (now : Int) : R.takeWhile (early now) = R.filter (early now) ∧ R.dropWhile (early now) = R.filter (fun p => !early now p) := by
  induction R with
  | nil => exact ⟨rfl, rfl⟩
  | cons p m ih =>
    have h' := List.pairwise_cons.1 h
    cases hp : early now p with
    | true =>
      simp only [List.takeWhile_cons, List.dropWhile_cons, List.filter_cons, hp, if_true, Bool.not_true, Bool.false_eq_true, if_false]
      exact ⟨by rw [(ih h'.2).1], (ih h'.2).2⟩
    | false =>
      have hno : ∀ q ∈ m, early now q = false := fun q hq => by
        cases hq2 : early now q with
        | false => rfl
        | true => rw [early_down (h'.1 q hq) hq2] at hp; cases hp
      simp only [List.takeWhile_cons, List.dropWhile_cons, List.filter_cons, hp, Bool.false_eq_true, if_false, Bool.not_false, if_true]
      refine ⟨(List.filter_eq_nil_iff.2 (fun q hq => by rw [hno q hq]; simp)).symm, ?_⟩
      rw [List.filter_eq_self.2 (fun q hq => by rw [hno q hq]; rfl)]
theorem Inv.take {n : Nat} {T R : Tms} (h : Inv n T R) (now : Int) : Inv n (ttake T now) (rtake R now) := by
  have h1 := (take_filter h.up now).2
  unfold ttake rtake
  rw [h1]
  exact ⟨h.perm.filter _, List.Sublist.nodup ((List.filter_sublist).map _) h.nd, List.Pairwise.sublist List.filter_sublist h.up, Nat.le_trans (List.length_filter_le _ _) h.len⟩
/-- Sorted keys that are due, whichever way they were sorted, are the document's. -/
theorem Inv.gone {n : Nat} {T R : Tms} (h : Inv n T R) (now : Int) {D : Tms} (hp : D.Perm (T.filter (early now))) (hs : D.Pairwise (fun x y => ¬ tlt y x)) : D.map (·.1) = rgone R now := by
  unfold rgone
  congr 1
  rw [(take_filter h.up now).1]
  refine List.Perm.eq_of_pairwise (le := fun a b => ¬ tlt b a) (fun a b _ _ h1 h2 => tlt_total h2 h1) hs ?_ (hp.trans (h.perm.filter _))
  exact List.Pairwise.sublist List.filter_sublist (List.Pairwise.imp (fun h1 h2 => tlt_irrefl _ (tlt_trans h1 h2)) h.up)
/-- The head of the document's is due first. -/
theorem Inv.first {n : Nat} {T R : Tms} {x : Tm} {m : Tms} (h : Inv n T R) (hR : R = x :: m) : (∃ p ∈ T, p.2 = x.2) ∧ ∀ p ∈ T, x.2 ≤ p.2 := by
  subst hR
  refine ⟨⟨x, h.perm.mem_iff.2 (List.mem_cons_self ..), rfl⟩, fun p hp => ?_⟩
  rcases List.mem_cons.1 (h.perm.mem_iff.1 hp) with rfl | hp
  · exact Int.le_refl _
  · rcases (List.pairwise_cons.1 h.up).1 p hp with h1 | h1 <;> omega
end Go.Proofs.Ytdfghndcengkaaa.Tmr
