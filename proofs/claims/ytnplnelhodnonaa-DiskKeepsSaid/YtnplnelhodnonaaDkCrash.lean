/- The disk's functions, walked: Segments of a disk, Crash. -/
import Derived.Test.YtnplnelhodnonaaDkSpoil
import Derived.Test.YtnplnelhodnonaaDskSeg
import Derived.Deep.DeepCutAuto
namespace Go.Proofs.Ytnplnelhodnonaa.Dsk
open Go.RowKit Go.Proofs.YtnplnelhodnonaaW.PrintWords Go.Proofs.YtnplnelhodnonaaW.PrintLast Go.Proofs.YtnplnelhodnonaaW.PrintMore
open Amap Frm
set_option linter.unusedVariables false
set_option linter.unusedSimpArgs false
section
variable {ok : Nat → Prop} {w w1 : World} {p b : Nat} {S S' : DSt} {M : Gss}
theorem DAt.mapI (h : DAt ok w p S M b) : MapIs ek ep domI w b (M.map (fun q => (q.1, q.2.1))) := by
  obtain ⟨es, c, hb, he, hd, hn, hs⟩ := h.map
  refine ⟨es, c, hb, ?_, fun q hq => ?_, by rw [List.map_map]; exact hn, hs⟩
  · rw [he, List.map_map]
    rfl
  · obtain ⟨x, hx, rfl⟩ := List.mem_map.1 hq
    exact hd x hx
theorem DAt.nums (h : DAt ok w p S M b) : nums S.L = ((M.map (fun q => (q.1, q.2.1))).map (·.1)).mergeSort (fun x y => decide (x ≤ y)) := by
  unfold Dsk.nums
  rw [h.L, List.map_map, List.map_map]
  rfl
theorem mem_nums {L : Sgs} {n : Int} : n ∈ nums L ↔ ∃ v, (n, v) ∈ L := by
  unfold Dsk.nums
  rw [List.mem_mergeSort, List.mem_map]
  exact ⟨fun ⟨q, h1, h2⟩ => ⟨q.2, by rw [← h2]; exact h1⟩, fun ⟨v, h⟩ => ⟨_, h, rfl⟩⟩
theorem len_nums (L : Sgs) : (nums L).length = L.length := by
  unfold Dsk.nums
  rw [List.length_mergeSort, List.length_map]
theorem nd_nums {L : Sgs} (h : nd L) : (nums L).Nodup := (List.mergeSort_perm _ _).nodup_iff.2 h
theorem DAt.ndL (h : DAt ok w p S M b) : Dsk.nd S.L := by
  unfold Dsk.nd
  rw [h.L, List.map_map]
  exact h.nd
theorem DAt.look' (h : DAt ok w p S M b) {n : Int} {u : Sg} (hu : mlook S.L n = some u) : ∃ x, mlook M n = some x ∧ x.2.2 = u := by
  rw [h.look] at hu
  cases hx : mlook M n with
  | none => rw [hx] at hu; cases hu
  | some x => rw [hx] at hu; exact ⟨x, rfl, by simpa using hu⟩
/-- The synced count turns. -/
theorem DAt.setSync (h : DAt ok w p S M b) {n : Int} {x : Gs} (hx : mlook M n = some x) (m : Nat) (hS : S'.L = mput S.L n (x.2.2.1, m)) (hc : dcs S' b = dcs S b) : DAt ok (w.setCell ⟨x.1, 1, none⟩ (.int .i64 m)) p S' (mput M n (x.1, x.2.1, (x.2.2.1, m))) b ∧ Fz ok w (w.setCell ⟨x.1, 1, none⟩ (.int .i64 m)) := by
  have hs := h.seg hx
  refine ⟨h.put (x := (x.1, x.2.1, (x.2.2.1, m))) (n := n) hS ?_ ?_ ⟨hs.gk, blk_put hs.blk 1 _ rfl, Kd.R_set hs.row hs.blk (by simp [Kd.int, Kd.scalar]) 1 _⟩ (fun q' hq' hne => (h.segs q' hq').other hs (h.apart q' hq' (n, x) (look_mem' hx) hne).g 1 _) (fun q' hq' hne => ?_), (Fz.refl ok w).set hs.blk (by simp) hs.gk 1 _⟩
  · rw [hc]
    exact (Below.heap_setCell w ⟨x.1, 1, none⟩ _ p (fun e => by
      have e : p = x.1 := e
      exact seg_far hs h.blk (by decide) e.symm)).trans h.blk
  · exact (h.map_put (x := (x.1, x.2.1, (x.2.2.1, m))) hx rfl).move (Below.heap_setCell w ⟨x.1, 1, none⟩ _ b (h.map_far hs.blk))
  · have := h.apart q' hq' (n, x) (look_mem' hx) hne
    exact ⟨this.g, this.row⟩
/-- The bytes' slice turns shorter. -/
theorem DAt.cutRow (h : DAt ok w p S M b) {n : Int} {x : Gs} (hx : mlook M n = some x) {A : Option Addr} {c k : Nat} (hv : x.2.1 = .slice A x.2.2.1.length c) (hk : k ≤ x.2.2.1.length) (hS : S'.L = mput S.L n (x.2.2.1.take k, x.2.2.2)) (hc : dcs S' b = dcs S b) : DAt ok (w.setCell ⟨x.1, 0, none⟩ (.slice A k c)) p S' (mput M n (x.1, .slice A k c, (x.2.2.1.take k, x.2.2.2))) b ∧ Fz ok w (w.setCell ⟨x.1, 0, none⟩ (.slice A k c)) := by
  have hs := h.seg hx
  have hrow := hs.row
  rw [hv] at hrow
  have hob : (Value.slice A k c).ownBlock = x.2.1.ownBlock ∨ (Value.slice A k c).ownBlock = none := by
    rw [hv]
    cases A with
    | none => exact .inr rfl
    | some a => exact .inl rfl
  refine ⟨h.put (x := (x.1, .slice A k c, (x.2.2.1.take k, x.2.2.2))) (n := n) hS ?_ ?_ ⟨hs.gk, blk_put hs.blk 0 _ rfl, Kd.R_set (Kd.R_take hrow hk) hs.blk (by simp [Kd.int, Kd.scalar]) 0 _⟩ (fun q' hq' hne => (h.segs q' hq').other hs (h.apart q' hq' (n, x) (look_mem' hx) hne).g 0 _) (fun q' hq' hne => ?_), (Fz.refl ok w).set hs.blk (by simp) hs.gk 0 _⟩
  · rw [hc]
    exact (Below.heap_setCell w ⟨x.1, 0, none⟩ _ p (fun e => by
      have e : p = x.1 := e
      exact seg_far hs h.blk (by decide) e.symm)).trans h.blk
  · exact (h.map_put (x := (x.1, .slice A k c, (x.2.2.1.take k, x.2.2.2))) hx rfl).move (Below.heap_setCell w ⟨x.1, 0, none⟩ _ b (h.map_far hs.blk))
  · have := h.apart q' hq' (n, x) (look_mem' hx) hne
    refine ⟨this.g, fun k2 hk2 e => ?_⟩
    have e : (Value.slice A k c).ownBlock = some k2 := e
    rcases hob with h1 | h1
    · exact this.row k2 hk2 (h1.symm.trans e)
    · rw [h1] at e; cases e
theorem look_put {L : Sgs} (n : Int) (v : Sg) (k : Int) (hk : k ≠ n) : mlook (mput L n v) k = mlook L k := by
  induction L with
  | nil =>
    simp only [mput, mlook]
    rw [if_neg (fun e : n = k => hk e.symm)]
  | cons p m ih =>
    unfold mput
    split
    · rename_i e
      simp only [mlook]
      rw [if_neg (fun e2 : n = k => hk e2.symm), if_neg (fun e2 : p.1 = k => hk (e2.symm.trans e))]
    · simp only [mlook, ih]
theorem look_del {L : Sgs} (n : Int) (k : Int) (hk : k ≠ n) : mlook (mdel L n) k = mlook L k := by
  induction L with
  | nil => rfl
  | cons p m ih =>
    unfold mdel
    split
    · rename_i e
      simp only [mlook]
      rw [if_neg (fun e2 : p.1 = k => hk (e2.symm.trans e))]
    · simp only [mlook, ih]
theorem del_put (L : Sgs) (n : Int) (v : Sg) (h : mlook L n ≠ none) : mdel (mput L n v) n = mdel L n := by
  induction L with
  | nil => exact absurd rfl h
  | cons p m ih =>
    unfold mput
    by_cases e : p.1 = n
    · simp [mdel, e]
    · simp only [mlook, if_neg e] at h
      simp [mdel, e, ih h]
theorem look_crash1 {keep : List Int} {i : Nat} {n : Int} {L : Sgs} (k : Int) (hk : k ≠ n) : mlook (crash1 keep i n L) k = mlook L k := by
  unfold crash1
  split
  · exact look_del n k hk
  · exact look_put n _ k hk
end
/-- The numbers of a disk, in a row of their own. -/
theorem Segs_calls (S : DSt) (M : Gss) (b : Nat) (ok : Nat → Prop) (p : Nat) (w : World) (h : DAt ok w p S M b) (hl : S.L.length ≤ 100000) : Calls Try.prog 16 #[.pointer (some ⟨p, 0, none⟩)] w fun e w' => ∃ A c, e = .returned (.slice A (nums S.L).length c) ∧ (nums S.L).length ≤ c ∧ Kd.R (Kd.int .i64) 3 w' w.heap.size (fun k => w.heap.size ≤ k) (.slice A (nums S.L).length c) (nums S.L) ∧ Below w.heap.size w w' := by
  have hlen : (M.map (fun q => (q.1, q.2.1))).length = (nums S.L).length := by rw [len_nums, h.L, List.length_map, List.length_map]
  refine (Segments p b _ _ _ _ _ w h.blk h.mapI (by rw [hlen, len_nums]; exact hl)).mono ?_
  rintro e w' ⟨v, rfl, hrow, _, hB⟩
  rw [← h.nums, hlen] at hrow
  have hR : Kd.R (Kd.int .i64) 3 w' w.heap.size (fun k => w.heap.size ≤ k) v (nums S.L) := by
    have h0 : Kd.R (Kd.int .i64) 3 w' w.heap.size (fun _ => True) v (nums S.L) := Kd.R_of_own hrow (fun _ _ => trivial)
    exact Kd.R_mono (Kd.R_bound h0) (fun k hk => hk.2.1)
  obtain ⟨A, c, rfl, hc, _⟩ := Kd.R_reads hR
  exact ⟨A, c, rfl, hc, hR, hB⟩
end Go.Proofs.Ytnplnelhodnonaa.Dsk
