/- The disk and the document's disk as plain data, and how they answer. -/
import Derived.Test.YtnplnelhodnonaaAmap
import Derived.Test.YtnplnelhodnonaaFrames
namespace Go.Proofs.Ytnplnelhodnonaa.Dsk
open Go.RowKit Go.Proofs.YtnplnelhodnonaaW.PrintWords Go.Proofs.YtnplnelhodnonaaW.PrintLast Go.Proofs.YtnplnelhodnonaaW.PrintMore
open Amap
set_option linter.unusedVariables false
set_option linter.unusedSimpArgs false
/-- A segment: its bytes, and how many are synced. -/
abbrev Sg := List Int × Nat
abbrev Sgs := List (Int × Sg)
def used : Sgs → Nat
  | [] => 0
  | q :: r => q.2.1.length + used r
def sg (L : Sgs) (n : Int) : Sg := (mlook L n).getD ([], 0)
def drop1 (l : Int) : Int := wrap64 (l - 1)
/-! ### the disk -/
structure DSt where
  L : Sgs
  room : Int
  left : Int
  fused : Bool
  down : Bool
def burn (S : DSt) : DSt × Bool := if S.fused = true ∧ S.left = 0 then (⟨S.L, S.room, S.left, S.fused, true⟩, false) else (⟨S.L, S.room, drop1 S.left, S.fused, S.down⟩, true)
def DSt.withL (S : DSt) (L : Sgs) : DSt := ⟨L, S.room, S.left, S.fused, S.down⟩
def dappend (S : DSt) (n : Int) (b : List Int) : DSt × Int :=
  if S.down = true then (S, 8) else if n < 0 then (S, 1) else if (used S.L : Int) + b.length > S.room then (S, 7) else
  if (burn S).2 = true then ((burn S).1.withL (mput S.L n ((sg S.L n).1 ++ b, (sg S.L n).2)), 0) else ((burn S).1, 8)
/-- What find answers: 8 down, 5 none, 0 there. -/
def dfind (S : DSt) (n : Int) : Int := if S.down = true then 8 else if (mlook S.L n).isSome = true then 0 else 5
def dsync (S : DSt) (n : Int) : DSt × Int :=
  if dfind S n = 0 then (if (burn S).2 = true then ((burn S).1.withL (mput S.L n ((sg S.L n).1, (sg S.L n).1.length)), 0) else ((burn S).1, 8)) else (S, dfind S n)
def ddrop (S : DSt) (n : Int) : DSt × Int :=
  if dfind S n = 0 then (if (burn S).2 = true then ((burn S).1.withL (mdel S.L n), 0) else ((burn S).1, 8)) else (S, dfind S n)
def dread (S : DSt) (n : Int) : List Int := if dfind S n = 0 then (sg S.L n).1 else []
def dspoil (S : DSt) (n at_ : Int) (f : Int → Int) : DSt × Bool :=
  if 0 ≤ at_ ∧ at_ < (sg S.L n).1.length then (S.withL (mput S.L n ((sg S.L n).1.set at_.toNat (f ((sg S.L n).1.getD at_.toNat 0)), (sg S.L n).2)), true) else (S, false)
/-- How many bytes of a segment stay behind a crash. -/
def stay (keep : List Int) (i : Nat) (q : Sg) : Nat :=
  if keep = [] then q.2 else q.2 + (min (max (keep.getD (i % keep.length) 0) 0) ((q.1.length : Int) - q.2)).toNat
def cut (keep : List Int) (i : Nat) (q : Sg) : Sg := (q.1.take (stay keep i q), stay keep i q)
def crash1 (keep : List Int) (i : Nat) (n : Int) (L : Sgs) : Sgs := if stay keep i (sg L n) = 0 then mdel L n else mput L n (cut keep i (sg L n))
def crashL (keep : List Int) : List Int → Nat → Sgs → Sgs
  | [], _, L => L
  | n :: r, i, L => crashL keep r (i + 1) (crash1 keep i n L)
def nums (L : Sgs) : List Int := (L.map (·.1)).mergeSort (fun x y => decide (x ≤ y))
def dcrash (S : DSt) (keep : List Int) : DSt := ⟨crashL keep (nums S.L) 0 S.L, S.room, S.left, false, false⟩
/-! ### the document's -/
structure RSt where
  L : Sgs
  room : Int
  fuse : Int
  dead : Bool
def rburn (R : RSt) : RSt × Bool := if R.fuse = 0 then (⟨R.L, R.room, R.fuse, true⟩, false) else if R.fuse > 0 then (⟨R.L, R.room, R.fuse - 1, R.dead⟩, true) else (R, true)
def RSt.withL (R : RSt) (L : Sgs) : RSt := ⟨L, R.room, R.fuse, R.dead⟩
def rput : Sgs → Int → Sg → Sgs
  | [], n, v => [(n, v)]
  | p :: m, n, v => if p.1 < n then p :: rput m n v else if p.1 = n then (n, v) :: m else (n, v) :: p :: m
def rappend (R : RSt) (n : Int) (b : List Int) : RSt × Int :=
  if R.dead = true then (R, 8) else if n < 0 then (R, 1) else if (b.length : Int) > R.room - used R.L then (R, 7) else
  if (rburn R).2 = true then ((rburn R).1.withL (rput R.L n ((sg R.L n).1 ++ b, (sg R.L n).2)), 0) else ((rburn R).1, 8)
def rfind (R : RSt) (n : Int) : Int := if R.dead = true then 8 else if (mlook R.L n).isSome = true then 0 else 5
def rsync (R : RSt) (n : Int) : RSt × Int :=
  if rfind R n = 0 then (if (rburn R).2 = true then ((rburn R).1.withL (mput R.L n ((sg R.L n).1, (sg R.L n).1.length)), 0) else ((rburn R).1, 8)) else (R, rfind R n)
def rdrop (R : RSt) (n : Int) : RSt × Int :=
  if rfind R n = 0 then (if (rburn R).2 = true then ((rburn R).1.withL (mdel R.L n), 0) else ((rburn R).1, 8)) else (R, rfind R n)
def rread (R : RSt) (n : Int) : List Int := if rfind R n = 0 then (sg R.L n).1 else []
def rspoil (R : RSt) (n at_ : Int) (f : Int → Int) : RSt × Bool :=
  if 0 ≤ at_ ∧ at_ < (sg R.L n).1.length then (R.withL (mput R.L n ((sg R.L n).1.set at_.toNat (f ((sg R.L n).1.getD at_.toNat 0)), (sg R.L n).2)), true) else (R, false)
def rcrashL (keep : List Int) : Nat → Sgs → Sgs
  | _, [] => []
  | i, p :: m => if stay keep i p.2 = 0 then rcrashL keep (i + 1) m else (p.1, cut keep i p.2) :: rcrashL keep (i + 1) m
def rcrash (R : RSt) (keep : List Int) : RSt := ⟨rcrashL keep 0 R.L, R.room, -1, false⟩
/-! ### lists -/
def nd (L : Sgs) : Prop := (L.map (·.1)).Nodup
def rises (L : Sgs) : Prop := (L.map (·.1)).Pairwise (· < ·)
theorem rises.nd {L : Sgs} (h : rises L) : nd L := List.Pairwise.imp (fun h => Int.ne_of_lt h) h
theorem used_perm {L M : Sgs} (h : L.Perm M) : used L = used M := by
  induction h with
  | nil => rfl
  | cons x _ ih => simp only [used, ih]
  | swap x y l => simp only [used]; omega
  | trans _ _ h1 h2 => exact h1.trans h2
theorem nd_perm {L M : Sgs} (h : L.Perm M) (hn : nd L) : nd M := (h.map _).nodup_iff.1 hn
theorem look_mem {L : Sgs} {n : Int} {v : Sg} (h : mlook L n = some v) : (n, v) ∈ L := by
  induction L with
  | nil => cases h
  | cons p m ih =>
    unfold mlook at h
    split at h
    · rename_i e
      obtain ⟨p1, p2⟩ := p
      cases h
      simp only [] at e
      subst e
      exact List.mem_cons_self ..
    · exact List.mem_cons_of_mem _ (ih h)
theorem mem_look {L : Sgs} (hn : nd L) {n : Int} {v : Sg} (h : (n, v) ∈ L) : mlook L n = some v := by
  obtain ⟨j, hj⟩ := List.getElem?_of_mem h
  exact mlook_at hn hj
theorem look_perm {L M : Sgs} (h : L.Perm M) (hn : nd L) (n : Int) : mlook L n = mlook M n := by
  cases hl : mlook L n with
  | some v => exact (mem_look (nd_perm h hn) (h.mem_iff.1 (look_mem hl))).symm
  | none =>
    cases hm : mlook M n with
    | none => rfl
    | some v => rw [mem_look hn (h.mem_iff.2 (look_mem hm))] at hl; cases hl
theorem sg_perm {L M : Sgs} (h : L.Perm M) (hn : nd L) (n : Int) : sg L n = sg M n := by
  unfold sg
  rw [look_perm h hn]
def oth (n : Int) (p : Int × Sg) : Bool := !decide (p.1 = n)
theorem oth_none {L : Sgs} {n : Int} (h : ∀ p ∈ L, p.1 ≠ n) : L.filter (oth n) = L := List.filter_eq_self.2 (fun p hp => by simp [oth, h p hp])
theorem del_oth {L : Sgs} (hn : nd L) (n : Int) : mdel L n = L.filter (oth n) := by
  induction L with
  | nil => rfl
  | cons p m ih =>
    have hn' := List.nodup_cons.1 hn
    unfold mdel
    rw [List.filter_cons]
    split
    · rename_i e
      rw [if_neg (by simp [oth, e]), oth_none]
      intro q hq e2
      exact hn'.1 (List.mem_map.2 ⟨q, hq, e2.trans e.symm⟩)
    · rename_i e
      rw [if_pos (by simp [oth, e]), ih hn'.2]
theorem put_oth {L : Sgs} (hn : nd L) (n : Int) (v : Sg) : (mput L n v).Perm ((n, v) :: L.filter (oth n)) := by
  induction L with
  | nil => exact List.Perm.refl _
  | cons p m ih =>
    have hn' := List.nodup_cons.1 hn
    unfold mput
    rw [List.filter_cons]
    split
    · rename_i e
      rw [if_neg (by simp [oth, e]), oth_none]
      intro q hq e2
      exact hn'.1 (List.mem_map.2 ⟨q, hq, e2.trans e.symm⟩)
    · rename_i e
      rw [if_pos (by simp [oth, e])]
      exact ((ih hn'.2).cons p).trans (List.Perm.swap _ _ _)
theorem rput_oth {L : Sgs} (hn : rises L) (n : Int) (v : Sg) : (rput L n v).Perm ((n, v) :: L.filter (oth n)) := by
  induction L with
  | nil => exact List.Perm.refl _
  | cons p m ih =>
    have hn' := List.pairwise_cons.1 hn
    have hm : ∀ q ∈ m, p.1 < q.1 := fun q hq => hn'.1 q.1 (List.mem_map.2 ⟨q, hq, rfl⟩)
    unfold rput
    rw [List.filter_cons]
    split
    · rename_i e
      rw [if_pos (by simp [oth]; omega)]
      exact ((ih hn'.2).cons p).trans (List.Perm.swap _ _ _)
    · split
      · rename_i e
        rw [if_neg (by simp [oth, e]), oth_none]
        intro q hq e2
        have := hm q hq
        omega
      · rename_i e1 e2
        rw [if_pos (by simp [oth, e2]), oth_none]
        intro q hq e3
        have := hm q hq
        omega
theorem put_perm {L M : Sgs} (h : L.Perm M) (hn : nd L) (n : Int) (v : Sg) : (mput L n v).Perm (mput M n v) := ((put_oth hn n v).trans ((h.filter _).cons _)).trans (put_oth (nd_perm h hn) n v).symm
theorem rput_perm {L M : Sgs} (h : L.Perm M) (hn : rises M) (n : Int) (v : Sg) : (mput L n v).Perm (rput M n v) := ((put_oth (nd_perm h.symm hn.nd) n v).trans ((h.filter _).cons _)).trans (rput_oth hn n v).symm
theorem del_perm {L M : Sgs} (h : L.Perm M) (hn : nd L) (n : Int) : (mdel L n).Perm (mdel M n) := by
  rw [del_oth hn, del_oth (nd_perm h hn)]
  exact h.filter _
theorem put_keys {L : Sgs} {n : Int} {v v0 : Sg} (h : mlook L n = some v0) : (mput L n v).map (·.1) = L.map (·.1) := by
  induction L with
  | nil => cases h
  | cons p m ih =>
    unfold mlook at h
    unfold mput
    split
    · rename_i e; simp [e]
    · rename_i e
      rw [if_neg e] at h
      simp [ih h]
theorem put_rises {L : Sgs} (hn : rises L) {n : Int} {v v0 : Sg} (h : mlook L n = some v0) : rises (mput L n v) := by
  unfold rises
  rw [put_keys h]
  exact hn
theorem mem_rput {L : Sgs} {n : Int} {v : Sg} {q : Int × Sg} (h : q ∈ rput L n v) : q = (n, v) ∨ q ∈ L := by
  induction L with
  | nil => simp only [rput, List.mem_singleton] at h; exact .inl h
  | cons p m ih =>
    unfold rput at h
    split at h
    · rcases List.mem_cons.1 h with h | h
      · exact .inr (by rw [h]; exact List.mem_cons_self ..)
      · rcases ih h with h | h
        · exact .inl h
        · exact .inr (List.mem_cons_of_mem _ h)
    · split at h
      · rcases List.mem_cons.1 h with h | h
        · exact .inl h
        · exact .inr (List.mem_cons_of_mem _ h)
      · rcases List.mem_cons.1 h with h | h
        · exact .inl h
        · exact .inr h
theorem rput_rises {L : Sgs} (hn : rises L) (n : Int) (v : Sg) : rises (rput L n v) := by
  induction L with
  | nil => simp [rput, rises]
  | cons p m ih =>
    have hn' := List.pairwise_cons.1 hn
    have hm : ∀ q ∈ m, p.1 < q.1 := fun q hq => hn'.1 q.1 (List.mem_map.2 ⟨q, hq, rfl⟩)
    unfold rput
    split
    · rename_i e
      refine List.pairwise_cons.2 ⟨fun x hx => ?_, ih hn'.2⟩
      obtain ⟨q, hq, rfl⟩ := List.mem_map.1 hx
      rcases mem_rput hq with rfl | hq
      · exact e
      · exact hm q hq
    · split
      · rename_i e1 e2
        refine List.pairwise_cons.2 ⟨fun x hx => ?_, hn'.2⟩
        obtain ⟨q, hq, rfl⟩ := List.mem_map.1 hx
        rw [← e2]
        exact hm q hq
      · rename_i e1 e2
        refine List.pairwise_cons.2 ⟨fun x hx => ?_, hn⟩
        obtain ⟨q, hq, rfl⟩ := List.mem_map.1 hx
        show n < q.1
        rcases List.mem_cons.1 hq with rfl | hq
        · omega
        · have := hm q hq
          omega
theorem del_sub (L : Sgs) (n : Int) : List.Sublist (mdel L n) L := by
  induction L with
  | nil => exact List.Sublist.refl _
  | cons p m ih =>
    unfold mdel
    split
    · exact List.sublist_cons_self _ _
    · exact ih.cons_cons _
theorem del_rises {L : Sgs} (hn : rises L) (n : Int) : rises (mdel L n) := hn.sublist ((del_sub L n).map _)
theorem mem_mput {L : Sgs} {n : Int} {v : Sg} {q : Int × Sg} (h : q ∈ mput L n v) : q = (n, v) ∨ q ∈ L := by
  induction L with
  | nil => simp only [mput, List.mem_singleton] at h; exact .inl h
  | cons p m ih =>
    unfold mput at h
    split at h
    · rcases List.mem_cons.1 h with h | h
      · exact .inl h
      · exact .inr (List.mem_cons_of_mem _ h)
    · rcases List.mem_cons.1 h with h | h
      · exact .inr (by rw [h]; exact List.mem_cons_self ..)
      · rcases ih h with h | h
        · exact .inl h
        · exact .inr (List.mem_cons_of_mem _ h)
theorem used_put {L : Sgs} (n : Int) (v : Sg) : used (mput L n v) + (sg L n).1.length = used L + v.1.length := by
  induction L with
  | nil => simp [mput, used, sg, mlook]
  | cons p m ih =>
    unfold mput
    split
    · rename_i e
      have : sg (p :: m) n = p.2 := by unfold sg mlook; rw [if_pos e]; rfl
      rw [this]
      simp only [used]
      omega
    · rename_i e
      have : sg (p :: m) n = sg m n := by unfold sg; rw [mlook, if_neg e]
      rw [this]
      simp only [used]
      omega
theorem used_sub {L M : Sgs} (h : List.Sublist L M) : used L ≤ used M := by
  induction h with
  | slnil => exact Nat.le_refl _
  | cons a _ ih => simp only [used]; omega
  | cons_cons a _ ih => simp only [used]; omega
theorem len_mput (L : Sgs) (n : Int) (v : Sg) : (mput L n v).length ≤ L.length + 1 := by
  induction L with
  | nil => simp [mput]
  | cons p m ih =>
    unfold mput
    split
    · simp
    · simp only [List.length_cons]; omega
theorem used_mem {L : Sgs} {q : Int × Sg} (h : q ∈ L) : q.2.1.length ≤ used L := by
  induction L with
  | nil => cases h
  | cons p m ih =>
    simp only [used]
    rcases List.mem_cons.1 h with rfl | h
    · omega
    · have := ih h
      omega
theorem used_sg (L : Sgs) (n : Int) : (sg L n).1.length ≤ used L := by
  unfold sg
  cases hl : mlook L n with
  | none => simp
  | some v => exact used_mem (look_mem hl)
theorem nums_of {L M : Sgs} (h : L.Perm M) (hm : rises M) : nums L = M.map (·.1) := by
  unfold nums
  have hs : (M.map (·.1)).Pairwise (fun x y => decide (x ≤ y) = true) := List.Pairwise.imp (fun h => by simp; omega) hm
  rw [← List.mergeSort_of_pairwise hs]
  refine List.Perm.eq_of_pairwise (le := fun a b : Int => decide (a ≤ b) = true) ?_ ?_ ?_ ?_
  · intro a b _ _ h1 h2
    simp at h1 h2
    omega
  · exact List.pairwise_mergeSort (fun a b c h1 h2 => by simp at *; omega) (fun a b => by simp; omega) _
  · exact List.pairwise_mergeSort (fun a b c h1 h2 => by simp at *; omega) (fun a b => by simp; omega) _
  · exact (List.mergeSort_perm _ _).trans ((h.map _).trans (List.mergeSort_perm _ _).symm)
end Go.Proofs.Ytnplnelhodnonaa.Dsk
