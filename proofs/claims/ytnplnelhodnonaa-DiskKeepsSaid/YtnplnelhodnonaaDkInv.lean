/- What holds of a disk and the document's disk along a script. -/
import Derived.Test.YtnplnelhodnonaaDkPure
namespace Go.Proofs.Ytnplnelhodnonaa.Dsk
open Go.RowKit Go.Proofs.YtnplnelhodnonaaW.PrintWords Go.Proofs.YtnplnelhodnonaaW.PrintLast Go.Proofs.YtnplnelhodnonaaW.PrintMore
open Amap
set_option linter.unusedVariables false
set_option linter.unusedSimpArgs false
structure Inv (n : Nat) (S : DSt) (R : RSt) : Prop where
  perm : S.L.Perm R.L
  up : rises R.L
  room : S.room = R.room
  room0 : 0 ≤ R.room
  room1 : R.room ≤ 9223372036854775807
  fused : S.fused = decide (0 ≤ R.fuse)
  left : 0 ≤ R.fuse → S.left = R.fuse
  fuse : R.fuse ≤ 9223372036854775807
  down : S.down = R.dead
  num : ∀ q ∈ R.L, 0 ≤ q.1 ∧ q.1 ≤ 9223372036854775807 ∧ q.2.2 ≤ q.2.1.length
  len : R.L.length ≤ n
  used : used R.L ≤ n * 50000
theorem Inv.le {n m : Nat} {S : DSt} {R : RSt} (h : Inv n S R) (hm : n ≤ m) : Inv m S R :=
  ⟨h.perm, h.up, h.room, h.room0, h.room1, h.fused, h.left, h.fuse, h.down, h.num, Nat.le_trans h.len hm, Nat.le_trans h.used (Nat.mul_le_mul_right _ hm)⟩
theorem Inv.withL {n m : Nat} {S : DSt} {R : RSt} (h : Inv n S R) {L M : Sgs} (hp : L.Perm M) (hu : rises M) (hn : ∀ q ∈ M, 0 ≤ q.1 ∧ q.1 ≤ 9223372036854775807 ∧ q.2.2 ≤ q.2.1.length) (hl : M.length ≤ m) (hus : Dsk.used M ≤ m * 50000) : Inv m (S.withL L) (R.withL M) :=
  ⟨hp, hu, h.room, h.room0, h.room1, h.fused, h.left, h.fuse, h.down, hn, hl, hus⟩
theorem Inv.new (r : Int) (h0 : 0 ≤ r) (h1 : r ≤ 9223372036854775807) : Inv 0 ⟨[], r, 0, false, false⟩ ⟨[], r, -1, false⟩ :=
  ⟨List.Perm.refl _, by simp [rises], rfl, h0, h1, rfl, fun h => absurd h (by simp), by simp, rfl, by simp, Nat.le_refl _, Nat.le_refl _⟩
section
variable {n : Nat} {S : DSt} {R : RSt}
theorem Inv.nd (h : Inv n S R) : nd S.L := nd_perm h.perm.symm h.up.nd
theorem Inv.look (h : Inv n S R) (k : Int) : mlook S.L k = mlook R.L k := look_perm h.perm h.nd k
theorem Inv.sg (h : Inv n S R) (k : Int) : sg S.L k = sg R.L k := sg_perm h.perm h.nd k
theorem Inv.us (h : Inv n S R) : Dsk.used S.L = Dsk.used R.L := used_perm h.perm
theorem Inv.num2 (h : Inv n S R) : ∀ q ∈ S.L, 0 ≤ q.1 ∧ q.1 ≤ 9223372036854775807 ∧ q.2.2 ≤ q.2.1.length := fun q hq => h.num q (h.perm.mem_iff.1 hq)
theorem Inv.sg2 (h : Inv n S R) (k : Int) : (Dsk.sg R.L k).2 ≤ (Dsk.sg R.L k).1.length := by
  unfold Dsk.sg
  cases hl : mlook R.L k with
  | none => simp
  | some v => exact (h.num (k, v) (look_mem hl)).2.2
theorem burn_L (S : DSt) : (burn S).1.L = S.L ∧ (burn S).1.room = S.room ∧ (burn S).1.fused = S.fused := by unfold burn; split <;> exact ⟨rfl, rfl, rfl⟩
theorem rburn_L (R : RSt) : (rburn R).1.L = R.L := by unfold rburn; (repeat' split) <;> rfl
theorem Inv.burn (h : Inv n S R) : (rburn R).2 = (Dsk.burn S).2 ∧ Inv n (Dsk.burn S).1 (rburn R).1 := by
  have hf := h.fused
  have hl := h.left
  have hb := h.fuse
  unfold Dsk.burn rburn
  by_cases h0 : R.fuse = 0
  · have e : S.fused = true ∧ S.left = 0 := ⟨by rw [hf, h0]; rfl, by rw [hl (by omega), h0]⟩
    rw [if_pos h0, if_pos e]
    exact ⟨rfl, ⟨h.perm, h.up, h.room, h.room0, h.room1, h.fused, h.left, h.fuse, rfl, h.num, h.len, h.used⟩⟩
  · have e : ¬ (S.fused = true ∧ S.left = 0) := fun e => by
      have h1 : 0 ≤ R.fuse := by rw [e.1] at hf; exact of_decide_eq_true hf.symm
      have := hl h1
      omega
    rw [if_neg h0, if_neg e]
    by_cases h1 : R.fuse > 0
    · rw [if_pos h1]
      refine ⟨rfl, ⟨h.perm, h.up, h.room, h.room0, h.room1, ?_, fun _ => ?_, by show R.fuse - 1 ≤ _; omega, h.down, h.num, h.len, h.used⟩⟩
      · show S.fused = decide (0 ≤ R.fuse - 1)
        rw [hf, decide_eq_true (show 0 ≤ R.fuse by omega), decide_eq_true (show 0 ≤ R.fuse - 1 by omega)]
      · show drop1 S.left = R.fuse - 1
        rw [hl (by omega)]
        unfold drop1 wrap64
        omega
    · rw [if_neg h1]
      exact ⟨rfl, ⟨h.perm, h.up, h.room, h.room0, h.room1, h.fused, fun h2 => absurd h2 (by simp only []; omega), h.fuse, h.down, h.num, h.len, h.used⟩⟩
theorem Inv.find (h : Inv n S R) (k : Int) : rfind R k = dfind S k := by
  unfold rfind dfind
  rw [h.look, h.down]
theorem dfind0 {S : DSt} {k : Int} (h : dfind S k = 0) : ∃ v, mlook S.L k = some v := by
  unfold dfind at h
  split at h
  · cases h
  · cases hl : mlook S.L k with
    | none => rw [hl] at h; cases h
    | some v => exact ⟨v, rfl⟩
theorem sg_some {L : Sgs} {k : Int} {v : Sg} (h : mlook L k = some v) : Dsk.sg L k = v := by unfold Dsk.sg; rw [h]; rfl
/-- A segment that is there takes other bytes. -/
theorem Inv.put (h : Inv n S R) {k : Int} {v v0 : Sg} (hk : mlook R.L k = some v0) (hv : v.2 ≤ v.1.length) (hb : v.1.length ≤ v0.1.length) : Inv n (S.withL (mput S.L k v)) (R.withL (mput R.L k v)) := by
  have hu := used_put (L := R.L) k v
  rw [sg_some hk] at hu
  refine h.withL (put_perm h.perm h.nd k v) (put_rises h.up hk) (fun q hq => ?_) ?_ ?_
  · rcases mem_mput hq with rfl | hq
    · have := h.num _ (look_mem hk)
      exact ⟨this.1, this.2.1, hv⟩
    · exact h.num q hq
  · have e := congrArg List.length (put_keys (v := v) hk)
    rw [List.length_map, List.length_map] at e
    rw [e]
    exact h.len
  · have := h.used
    omega
theorem Inv.append (h : Inv n S R) (k : Int) (hk : k ≤ 9223372036854775807) (b : List Int) (hb : b.length ≤ 50000) : (rappend R k b).2 = (dappend S k b).2 ∧ Inv (n + 1) (dappend S k b).1 (rappend R k b).1 := by
  unfold rappend dappend
  rw [h.down]
  by_cases h1 : R.dead = true
  · rw [if_pos h1, if_pos h1]; exact ⟨rfl, h.le (Nat.le_succ _)⟩
  rw [if_neg h1, if_neg h1]
  by_cases h2 : k < 0
  · rw [if_pos h2, if_pos h2]; exact ⟨rfl, h.le (Nat.le_succ _)⟩
  rw [if_neg h2, if_neg h2, h.us, h.room]
  by_cases h3 : (Dsk.used R.L : Int) + b.length > R.room
  · rw [if_pos h3, if_pos (by omega)]; exact ⟨rfl, h.le (Nat.le_succ _)⟩
  rw [if_neg h3, if_neg (by omega)]
  obtain ⟨h4, h5⟩ := h.burn
  rw [h4]
  by_cases h6 : (Dsk.burn S).2 = true
  · rw [if_pos h6, if_pos h6]
    refine ⟨rfl, ?_⟩
    rw [h.sg]
    have hu := (used_perm (rput_perm h.perm h.up k ((Dsk.sg R.L k).1 ++ b, (Dsk.sg R.L k).2))).symm
    have hu2 := used_put (L := S.L) k ((Dsk.sg R.L k).1 ++ b, (Dsk.sg R.L k).2)
    have hl := (rput_perm h.perm h.up k ((Dsk.sg R.L k).1 ++ b, (Dsk.sg R.L k).2)).length_eq
    have hl2 := len_mput S.L k ((Dsk.sg R.L k).1 ++ b, (Dsk.sg R.L k).2)
    have hl3 := h.perm.length_eq
    refine h5.withL (rput_perm h.perm h.up k _) (rput_rises h.up k _) (fun q hq => ?_) ?_ ?_
    · rcases mem_rput hq with rfl | hq
      · have := h.sg2 k
        exact ⟨by simp only []; omega, hk, by simp; omega⟩
      · exact h.num q hq
    · have := h.len
      omega
    · rw [h.us, h.sg] at hu2
      have := h.used
      simp only [List.length_append] at hu2
      omega
  · rw [if_neg h6, if_neg h6]; exact ⟨rfl, h5.le (Nat.le_succ _)⟩
theorem Inv.sync (h : Inv n S R) (k : Int) : (rsync R k).2 = (dsync S k).2 ∧ Inv n (dsync S k).1 (rsync R k).1 := by
  unfold rsync dsync
  rw [h.find k]
  by_cases h1 : dfind S k = 0
  · rw [if_pos h1, if_pos h1]
    obtain ⟨h4, h5⟩ := h.burn
    rw [h4]
    by_cases h6 : (Dsk.burn S).2 = true
    · rw [if_pos h6, if_pos h6]
      refine ⟨rfl, ?_⟩
      obtain ⟨v, hv⟩ := dfind0 h1
      rw [h.sg]
      rw [h.look] at hv
      rw [sg_some hv]
      have := h5.put (k := k) (v := (v.1, v.1.length)) (v0 := v) (by rw [rburn_L]; exact hv) (Nat.le_refl _) (Nat.le_refl _)
      rw [(burn_L S).1, rburn_L] at this
      exact this
    · rw [if_neg h6, if_neg h6]; exact ⟨rfl, h5⟩
  · rw [if_neg h1, if_neg h1]; exact ⟨rfl, h⟩
theorem Inv.sub (h : Inv n S R) {L M : Sgs} (hp : L.Perm M) (hs : List.Sublist M R.L) : Inv n (S.withL L) (R.withL M) :=
  h.withL hp (List.Pairwise.sublist (hs.map _) h.up) (fun q hq => h.num q (hs.subset hq)) (Nat.le_trans hs.length_le h.len) (Nat.le_trans (used_sub hs) h.used)
theorem Inv.drop (h : Inv n S R) (k : Int) : (rdrop R k).2 = (ddrop S k).2 ∧ Inv n (ddrop S k).1 (rdrop R k).1 := by
  unfold rdrop ddrop
  rw [h.find k]
  by_cases h1 : dfind S k = 0
  · rw [if_pos h1, if_pos h1]
    obtain ⟨h4, h5⟩ := h.burn
    rw [h4]
    by_cases h6 : (Dsk.burn S).2 = true
    · rw [if_pos h6, if_pos h6]
      exact ⟨rfl, h5.sub (del_perm h.perm h.nd k) (by rw [rburn_L]; exact del_sub _ _)⟩
    · rw [if_neg h6, if_neg h6]; exact ⟨rfl, h5⟩
  · rw [if_neg h1, if_neg h1]; exact ⟨rfl, h⟩
theorem Inv.read (h : Inv n S R) (k : Int) : rread R k = dread S k := by
  unfold rread dread
  rw [h.find, h.sg]
theorem Inv.spoil (h : Inv n S R) (k a : Int) (f : Int → Int) : (rspoil R k a f).2 = (dspoil S k a f).2 ∧ Inv n (dspoil S k a f).1 (rspoil R k a f).1 := by
  unfold rspoil dspoil
  rw [h.sg]
  split
  · rename_i h1
    refine ⟨rfl, ?_⟩
    have hl : ∃ v, mlook R.L k = some v := by
      cases hl : mlook R.L k with
      | some v => exact ⟨v, rfl⟩
      | none =>
        have : Dsk.sg R.L k = ([], 0) := by unfold Dsk.sg; rw [hl]; rfl
        rw [this] at h1
        have := h1.2
        simp at this
        omega
    obtain ⟨v, hv⟩ := hl
    have h2 := h.sg2 k
    rw [sg_some hv] at h2 ⊢
    exact h.put hv (by simpa using h2) (by simp)
  · exact ⟨rfl, h⟩
def setFuse (S : DSt) (x : Int) : DSt := ⟨S.L, S.room, x, decide (0 ≤ x), S.down⟩
def rsetFuse (R : RSt) (x : Int) : RSt := ⟨R.L, R.room, max x (-1), R.dead⟩
theorem Inv.setFuse (h : Inv n S R) (x : Int) (hx : x ≤ 9223372036854775807) : Inv n (Dsk.setFuse S x) (rsetFuse R x) :=
  ⟨h.perm, h.up, h.room, h.room0, h.room1, by
    show decide (0 ≤ x) = decide (0 ≤ max x (-1))
    exact decide_eq_decide.2 (by omega), fun h1 => by
    show x = max x (-1)
    have h1 : 0 ≤ max x (-1) := h1
    omega, by show max x (-1) ≤ _; omega, h.down, h.num, h.len, h.used⟩
def setRoom (S : DSt) (x : Int) : DSt := ⟨S.L, max x 0, S.left, S.fused, S.down⟩
def rsetRoom (R : RSt) (x : Int) : RSt := ⟨R.L, max x 0, R.fuse, R.dead⟩
theorem Inv.setRoom (h : Inv n S R) (x : Int) (hx : x ≤ 9223372036854775807) : Inv n (Dsk.setRoom S x) (rsetRoom R x) :=
  ⟨h.perm, h.up, rfl, by show 0 ≤ max x 0; omega, by show max x 0 ≤ _; omega, h.fused, h.left, h.fuse, h.down, h.num, h.len, h.used⟩
end
/-! ### a crash -/
theorem stay_le (keep : List Int) (i : Nat) (q : Sg) (h : q.2 ≤ q.1.length) : stay keep i q ≤ q.1.length ∧ q.2 ≤ stay keep i q := by
  unfold stay
  split <;> omega
theorem crash_perm (keep : List Int) : ∀ (M acc L : Sgs) (i : Nat), L.Perm (acc ++ M) → nd (acc ++ M) → (crashL keep (M.map (·.1)) i L).Perm (acc ++ rcrashL keep i M)
  | [], acc, L, i, hp, hn => hp
  | p :: m, acc, L, i, hp, hn => by
    obtain ⟨k, v⟩ := p
    have hnL : nd L := nd_perm hp.symm hn
    have hl : mlook L k = some v := mem_look hnL (hp.mem_iff.2 (by simp))
    have hno : ∀ q ∈ acc ++ m, q.1 ≠ k := by
      have h1 : nd ((k, v) :: (acc ++ m)) := nd_perm List.perm_middle hn
      intro q hq e
      exact (List.nodup_cons.1 h1).1 (List.mem_map.2 ⟨q, hq, e⟩)
    have hoth : (L.filter (oth k)).Perm (acc ++ m) := by
      have h1 := hp.filter (oth k)
      rw [List.filter_append, List.filter_cons, if_neg (by simp [oth]), ← List.filter_append, oth_none hno] at h1
      exact h1
    have hn2 : nd (acc ++ m) := (List.nodup_cons.1 (nd_perm List.perm_middle hn : nd ((k, v) :: (acc ++ m)))).2
    show (crashL keep (m.map (·.1)) (i + 1) (crash1 keep i k L)).Perm _
    unfold crash1 rcrashL
    rw [sg_some hl]
    show (crashL keep (m.map (·.1)) (i + 1) (if stay keep i v = 0 then mdel L k else mput L k (cut keep i v))).Perm (acc ++ if stay keep i v = 0 then rcrashL keep (i + 1) m else (k, cut keep i v) :: rcrashL keep (i + 1) m)
    split
    · exact crash_perm keep m acc _ (i + 1) (by rw [del_oth hnL]; exact hoth) hn2
    · have h2 := crash_perm keep m (acc ++ [(k, cut keep i v)]) (mput L k (cut keep i v)) (i + 1) (by
        refine (put_oth hnL k _).trans ?_
        rw [List.append_assoc]
        exact (hoth.cons _).trans List.perm_middle.symm) (by
        rw [List.append_assoc]
        refine nd_perm List.perm_middle.symm ?_
        refine List.nodup_cons.2 ⟨fun hm => ?_, hn2⟩
        obtain ⟨q, hq, e⟩ := List.mem_map.1 hm
        exact hno q hq e)
      rw [List.append_assoc] at h2
      exact h2
theorem mem_rcrash {keep : List Int} : ∀ {M : Sgs} {i : Nat} {q : Int × Sg}, q ∈ rcrashL keep i M → ∃ v j, (q.1, v) ∈ M ∧ q.2 = cut keep j v
  | [], _, _, h => by cases h
  | p :: m, i, q, h => by
    unfold rcrashL at h
    split at h
    · obtain ⟨v, j, h1, h2⟩ := mem_rcrash h
      exact ⟨v, j, List.mem_cons_of_mem _ h1, h2⟩
    · rcases List.mem_cons.1 h with rfl | h
      · exact ⟨p.2, i, List.mem_cons_self .., rfl⟩
      · obtain ⟨v, j, h1, h2⟩ := mem_rcrash h
        exact ⟨v, j, List.mem_cons_of_mem _ h1, h2⟩
theorem rcrash_keys (keep : List Int) : ∀ (M : Sgs) (i : Nat), List.Sublist ((rcrashL keep i M).map (·.1)) (M.map (·.1))
  | [], _ => List.Sublist.refl _
  | p :: m, i => by
    unfold rcrashL
    split
    · exact (rcrash_keys keep m (i + 1)).cons _
    · exact (rcrash_keys keep m (i + 1)).cons_cons _
theorem rcrash_used (keep : List Int) : ∀ (M : Sgs) (i : Nat), used (rcrashL keep i M) ≤ used M
  | [], _ => Nat.le_refl _
  | p :: m, i => by
    have ih := rcrash_used keep m (i + 1)
    unfold rcrashL
    split
    · simp only [used]; omega
    · have : (cut keep i p.2).1.length ≤ p.2.1.length := by unfold cut; simp; omega
      simp only [used]
      omega
theorem Inv.crash {n : Nat} {S : DSt} {R : RSt} (h : Inv n S R) (keep : List Int) : Inv n (dcrash S keep) (rcrash R keep) := by
  refine ⟨?_, List.Pairwise.sublist (rcrash_keys keep _ _) h.up, h.room, h.room0, h.room1, rfl, fun h => absurd h (by simp [rcrash]), by simp [rcrash], rfl, fun q hq => ?_, ?_, Nat.le_trans (rcrash_used keep _ _) h.used⟩
  · show (crashL keep (nums S.L) 0 S.L).Perm (rcrashL keep 0 R.L)
    rw [nums_of h.perm h.up]
    exact crash_perm keep R.L [] S.L 0 h.perm h.up.nd
  · obtain ⟨v, j, h1, h2⟩ := mem_rcrash hq
    have h3 := h.num _ h1
    refine ⟨h3.1, h3.2.1, ?_⟩
    rw [h2]
    have := stay_le keep j v h3.2.2
    unfold cut
    simp
    omega
  · have := (rcrash_keys keep R.L 0).length_le
    rw [List.length_map, List.length_map] at this
    exact Nat.le_trans this h.len
end Go.Proofs.Ytnplnelhodnonaa.Dsk
