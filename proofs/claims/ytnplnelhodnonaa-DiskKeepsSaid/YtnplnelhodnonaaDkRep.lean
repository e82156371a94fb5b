/- Where a disk lies in memory. -/
import Derived.Test.YtnplnelhodnonaaDskUsed
import Derived.Test.YtnplnelhodnonaaDkInv
namespace Go.Proofs.Ytnplnelhodnonaa.Dsk
open Go.RowKit Go.Proofs.YtnplnelhodnonaaW.PrintWords Go.Proofs.YtnplnelhodnonaaW.PrintLast Go.Proofs.YtnplnelhodnonaaW.PrintMore
open Amap Frm
set_option linter.unusedVariables false
set_option linter.unusedSimpArgs false
/-- A segment in memory: its block, its bytes' slice, what it is. -/
abbrev Gs := Nat × Value × Sg
abbrev Gss := List (Int × Gs)
def gval (x : Gs) : Value := ep x.1
structure SegAt (ok : Nat → Prop) (w : World) (x : Gs) : Prop where
  gk : ok x.1
  blk : w.heap[x.1]? = some (.cells #[x.2.1, .int .i64 (x.2.2.2 : Nat)] 91 (0, 0))
  row : Kd.R (Kd.int .u8) 5 w 0 ok x.2.1 x.2.2.1
structure Far (x y : Gs) : Prop where
  g : x.1 ≠ y.1
  row : ∀ k, x.2.1.ownBlock = some k → y.2.1.ownBlock ≠ some k
theorem Far.symm {x y : Gs} (h : Far x y) : Far y x := ⟨fun e => h.g e.symm, fun k hk e => h.row k e hk⟩
def dcs (S : DSt) (b : Nat) : Array Value := #[.map (some b), .int .i64 S.room, .int .i64 S.left, .bool S.fused, .bool S.down]
structure DAt (ok : Nat → Prop) (w : World) (p : Nat) (S : DSt) (M : Gss) (b : Nat) : Prop where
  pk : ok p
  blk : w.heap[p]? = some (.cells (dcs S b) 79 (0, 0))
  bk : ok b
  map : MapIs ek gval domI w b M
  L : S.L = M.map (fun q => (q.1, q.2.2.2))
  segs : ∀ q ∈ M, SegAt ok w q.2
  apart : ∀ q ∈ M, ∀ q' ∈ M, q.1 ≠ q'.1 → Far q.2 q'.2
/-- A disk lies at p; all its blocks are ok. -/
def IsD (ok : Nat → Prop) (w : World) (p : Nat) (S : DSt) : Prop := ∃ M b, DAt ok w p S M b
structure Fz (ok : Nat → Prop) (w w' : World) : Prop where
  fr : Fr [79, 91, 5] true 0 w w'
  kp : Kp ok w w'
section
variable {ok ok' : Nat → Prop} {w w1 w2 : World} {p b : Nat} {S S' : DSt} {M : Gss}
theorem Fz.refl (ok : Nat → Prop) (w : World) : Fz ok w w := ⟨Fr.refl _ _ _ _, Kp.refl _ _⟩
theorem Fz.trans (h : Fz ok w w1) (k : Fz ok w1 w2) : Fz ok w w2 := ⟨h.fr.trans k.fr, h.kp.trans k.kp⟩
theorem Fz.of_below (h : Below w.heap.size w w1) (ok : Nat → Prop) : Fz ok w w1 := ⟨Fr.of_below (Nat.zero_le _) h _ _, Kp.of_below h _⟩
theorem Fz.set (h : Fz ok w w1) {g t : Nat} {cs : Array Value} (hg : w1.heap[g]? = some (.cells cs t (0, 0))) (ht : t ∈ [79, 91, 5]) (hk : ok g) (j : Nat) (u : Value) : Fz ok w (w1.setCell ⟨g, j, none⟩ u) := ⟨h.fr.set hg ht (Nat.zero_le _) j u, h.kp.set hk j u⟩
theorem Fz.size (h : Fz ok w w1) : w.heap.size ≤ w1.heap.size := h.fr.below.size
theorem Fz.drew (h : Fz ok w w1) : Fz ok w w1.drew := ⟨h.fr.drew, h.kp.drew⟩
theorem Fz.drewN (h : Fz ok w w1) (n : Nat) : Fz ok w (w1.drewN n) := ⟨h.fr.drewN n, h.kp.drewN n⟩
theorem Fz.alloc (h : Fz ok w w1) (o : Obj) : Fz ok w (w1.alloc o) := h.trans (Fz.of_below (below_alloc (Below.refl _ _) o) _)
theorem Fz.mono (h : Fz ok w w1) (hk : ∀ k, ok k → ok' k) : Fz ok' w w1 := ⟨h.fr, ⟨h.kp.below, fun i hi hn => h.kp.same i hi (fun e => hn (hk i e))⟩⟩
theorem Fz.up {base : Nat} (h : Fz (Frm.up base) w w1) (hb : base ≤ w.heap.size) : Below base w w1 := h.kp.up hb
/-- The map's block is written. -/
theorem Fz.map (h : Fz ok w w1) {m : Gss} (hm : MapIs ek gval domI w1 b m) (hb : ok b) (hg : w1.grownBy w2 (some b)) : Fz ok w w2 :=
  ⟨h.fr.grown hg (Nat.zero_le _) (fun g e => ⟨Nat.zero_le _, fun o ho hs => by
    cases e
    obtain ⟨es, c, hb, _⟩ := hm
    rw [hb] at ho
    cases ho
    cases hs⟩), h.kp.grown hg (fun g e => by cases e; exact hb)⟩
theorem Fz.row (h : Fz ok w w1) {v : Value} {xs : List Int} (hr : Kd.R (Kd.int .u8) 5 w1 0 ok v xs) (hg : w1.grownBy w2 v.ownBlock) : Fz ok w w2 := by
  refine ⟨h.fr.grown hg (Nat.zero_le _) (fun g e1 => ⟨Nat.zero_le _, fun o ho => ?_⟩), h.kp.grown hg (fun g e1 => hr.1 g e1)⟩
  obtain ⟨cells, hc⟩ := Kd.R_typed hr g e1
  rw [hc] at ho
  cases ho
  simp [Still]
/-! #### what moves -/
theorem SegAt.move {x : Gs} (h : SegAt ok w x) (H : ∀ k, ok k → k < w.heap.size → w1.heap[k]? = w.heap[k]?) : SegAt ok w1 x :=
  ⟨h.gk, (H _ h.gk (blk_lt h.blk)).trans h.blk, Kd.R_step h.row H⟩
theorem SegAt.refoot {x : Gs} (h : SegAt ok w x) (H : ∀ k, ok k → k < w.heap.size → ok' k) : SegAt ok' w x :=
  ⟨H _ h.gk (blk_lt h.blk), h.blk, Kd.R_mono (Kd.R_bound h.row) (fun k hk => H k hk.1 hk.2.2.1)⟩
theorem SegAt.below {x : Gs} (h : SegAt ok w x) (hb : Below w.heap.size w w1) : SegAt ok w1 x := h.move (fun k _ hk => hb.block k hk)
theorem DAt.move (h : DAt ok w p S M b) (H : ∀ k, ok k → k < w.heap.size → w1.heap[k]? = w.heap[k]?) : DAt ok w1 p S M b :=
  ⟨h.pk, (H p h.pk (blk_lt h.blk)).trans h.blk, h.bk, h.map.move (H b h.bk h.map.lt), h.L, fun q hq => (h.segs q hq).move H, h.apart⟩
theorem DAt.refoot (h : DAt ok w p S M b) (H : ∀ k, ok k → k < w.heap.size → ok' k) : DAt ok' w p S M b :=
  ⟨H p h.pk (blk_lt h.blk), h.blk, H b h.bk h.map.lt, h.map, h.L, fun q hq => (h.segs q hq).refoot H, h.apart⟩
theorem DAt.below (h : DAt ok w p S M b) (hb : Below w.heap.size w w1) : DAt ok w1 p S M b := h.move (fun k _ hk => hb.block k hk)
theorem IsD.move (h : IsD ok w p S) (H : ∀ k, ok k → k < w.heap.size → w1.heap[k]? = w.heap[k]?) : IsD ok w1 p S := by
  obtain ⟨M, b, h⟩ := h
  exact ⟨M, b, h.move H⟩
theorem IsD.refoot (h : IsD ok w p S) (H : ∀ k, ok k → k < w.heap.size → ok' k) : IsD ok' w p S := by
  obtain ⟨M, b, h⟩ := h
  exact ⟨M, b, h.refoot H⟩
theorem IsD.below (h : IsD ok w p S) (hb : Below w.heap.size w w1) : IsD ok w1 p S := h.move (fun k _ hk => hb.block k hk)
/-! #### cells -/
theorem DAt.cells (h : DAt ok w p S M b) : w.cell? ⟨p, 0, none⟩ = some (.map (some b)) ∧ w.cell? ⟨p, 1, none⟩ = some (.int .i64 S.room) ∧ w.cell? ⟨p, 2, none⟩ = some (.int .i64 S.left) ∧ w.cell? ⟨p, 3, none⟩ = some (.bool S.fused) ∧ w.cell? ⟨p, 4, none⟩ = some (.bool S.down) :=
  ⟨(blk_cell h.blk 0).trans rfl, (blk_cell h.blk 1).trans rfl, (blk_cell h.blk 2).trans rfl, (blk_cell h.blk 3).trans rfl, (blk_cell h.blk 4).trans rfl⟩
theorem SegAt.cells {x : Gs} (h : SegAt ok w x) : w.cell? ⟨x.1, 0, none⟩ = some x.2.1 ∧ w.cell? ⟨x.1, 1, none⟩ = some (.int .i64 (x.2.2.2 : Nat)) :=
  ⟨(blk_cell h.blk 0).trans rfl, (blk_cell h.blk 1).trans rfl⟩
theorem SegAt.form {x : Gs} (h : SegAt ok w x) : ∃ A c, x.2.1 = .slice A x.2.2.1.length c ∧ x.2.2.1.length ≤ c ∧ Kd.C (Kd.int .u8) w A x.2.2.1.length x.2.2.1 := Kd.R_reads h.row
theorem mem_look' {M : Gss} (hn : (M.map (·.1)).Nodup) {n : Int} {x : Gs} (h : (n, x) ∈ M) : mlook M n = some x := by
  obtain ⟨j, hj⟩ := List.getElem?_of_mem h
  exact mlook_at hn hj
theorem look_mem' {M : Gss} {n : Int} {x : Gs} (h : mlook M n = some x) : (n, x) ∈ M := by
  induction M with
  | nil => cases h
  | cons p m ih =>
    unfold mlook at h
    split at h
    · rename_i e
      obtain ⟨p1, p2⟩ := p
      cases h
      simp only [] at e
      subst e
      exact List.mem_cons_self ..
    · exact List.mem_cons_of_mem _ (ih h)
theorem DAt.nd (h : DAt ok w p S M b) : (M.map (·.1)).Nodup := by
  obtain ⟨es, c, _, _, _, hn, _⟩ := h.map
  exact hn
theorem DAt.dom (h : DAt ok w p S M b) : ∀ q ∈ M, domI q.1 := by
  obtain ⟨es, c, _, _, hd, _, _⟩ := h.map
  exact hd
theorem look_map (M : Gss) (n : Int) : mlook (M.map (fun q => (q.1, q.2.2.2))) n = (mlook M n).map (fun x => x.2.2) := by
  induction M with
  | nil => rfl
  | cons p m ih =>
    simp only [List.map_cons, mlook]
    split
    · rfl
    · exact ih
theorem put_map (M : Gss) (n : Int) (x : Gs) : (mput M n x).map (fun q => (q.1, q.2.2.2)) = mput (M.map (fun q => (q.1, q.2.2.2))) n x.2.2 := by
  induction M with
  | nil => rfl
  | cons p m ih =>
    simp only [List.map_cons, mput]
    split
    · rfl
    · simp [ih]
theorem del_map (M : Gss) (n : Int) : (mdel M n).map (fun q => (q.1, q.2.2.2)) = mdel (M.map (fun q => (q.1, q.2.2.2))) n := by
  induction M with
  | nil => rfl
  | cons p m ih =>
    simp only [List.map_cons, mdel]
    split
    · rfl
    · simp [ih]
theorem DAt.look (h : DAt ok w p S M b) (n : Int) : mlook S.L n = (mlook M n).map (fun x => x.2.2) := by rw [h.L, look_map]
theorem DAt.seg (h : DAt ok w p S M b) {n : Int} {x : Gs} (hx : mlook M n = some x) : SegAt ok w x := h.segs _ (look_mem' hx)
theorem DAt.sg (h : DAt ok w p S M b) {n : Int} {x : Gs} (hx : mlook M n = some x) : Dsk.sg S.L n = x.2.2 := by
  unfold Dsk.sg
  rw [h.look, hx]
  rfl
theorem DAt.sg0 (h : DAt ok w p S M b) {n : Int} (hx : mlook M n = none) : Dsk.sg S.L n = ([], 0) := by
  unfold Dsk.sg
  rw [h.look, hx]
  rfl
theorem MapIs.same {m m' : Gss} (h : MapIs ek gval domI w b m) (hv : m'.map (fun q => (ek q.1, gval q.2)) = m.map (fun q => (ek q.1, gval q.2))) (hd : ∀ q ∈ m', domI q.1) (hn : (m'.map (·.1)).Nodup) : MapIs ek gval domI w b m' := by
  obtain ⟨es, c, hb, he, _, _, hs⟩ := h
  exact ⟨es, c, hb, he.trans hv.symm, hd, hn, hs⟩
theorem mem_put {M : Gss} {n : Int} {x : Gs} {q : Int × Gs} (hn : (M.map (·.1)).Nodup) (h : q ∈ mput M n x) : q = (n, x) ∨ (q ∈ M ∧ q.1 ≠ n) := by
  induction M with
  | nil => simp only [mput, List.mem_singleton] at h; exact .inl h
  | cons p m ih =>
    have hn' := List.nodup_cons.1 hn
    unfold mput at h
    split at h
    · rename_i e
      rcases List.mem_cons.1 h with h | h
      · exact .inl h
      · exact .inr ⟨List.mem_cons_of_mem _ h, fun e2 => hn'.1 (List.mem_map.2 ⟨q, h, e2.trans e.symm⟩)⟩
    · rename_i e
      rcases List.mem_cons.1 h with rfl | h
      · exact .inr ⟨List.mem_cons_self .., e⟩
      · rcases ih hn'.2 h with h | ⟨h, h2⟩
        · exact .inl h
        · exact .inr ⟨List.mem_cons_of_mem _ h, h2⟩
theorem put_keys' {M : Gss} {n : Int} {x x0 : Gs} (h : mlook M n = some x0) : (mput M n x).map (·.1) = M.map (·.1) := by
  induction M with
  | nil => cases h
  | cons p m ih =>
    unfold mlook at h
    unfold mput
    split
    · rename_i e; simp [e]
    · rename_i e
      rw [if_neg e] at h
      simp [ih h]
theorem put_vals {M : Gss} {n : Int} {x x0 : Gs} (h : mlook M n = some x0) (hg : x.1 = x0.1) : (mput M n x).map (fun q => (ek q.1, gval q.2)) = M.map (fun q => (ek q.1, gval q.2)) := by
  induction M with
  | nil => cases h
  | cons p m ih =>
    unfold mlook at h
    unfold mput
    split
    · rename_i e
      rw [if_pos e] at h
      cases h
      simp [e, gval, hg]
    · rename_i e
      rw [if_neg e] at h
      simp only [List.map_cons, ih h]
/-- The map's block stays, a segment's value turns. -/
theorem DAt.map_put (h : DAt ok w p S M b) {n : Int} {x x0 : Gs} (h0 : mlook M n = some x0) (hg : x.1 = x0.1) : MapIs ek gval domI w b (mput M n x) :=
  MapIs.same h.map (put_vals h0 hg) (fun q hq => by
    rcases mem_put h.nd hq with rfl | ⟨hq, _⟩
    · exact h.dom (n, x0) (look_mem' h0)
    · exact h.dom q hq) (by rw [put_keys' h0]; exact h.nd)
/-- A segment is laid anew or turned. -/
theorem DAt.put (h : DAt ok w p S M b) {n : Int} {x : Gs} (hS : S'.L = mput S.L n x.2.2) (hp : w1.heap[p]? = some (.cells (dcs S' b) 79 (0, 0))) (hm : MapIs ek gval domI w1 b (mput M n x)) (hx : SegAt ok w1 x) (hold : ∀ q ∈ M, q.1 ≠ n → SegAt ok w1 q.2) (hap : ∀ q ∈ M, q.1 ≠ n → Far q.2 x) : DAt ok w1 p S' (mput M n x) b := by
  refine ⟨h.pk, hp, h.bk, hm, by rw [hS, h.L, put_map], fun q hq => ?_, fun q hq q' hq' hne => ?_⟩
  · rcases mem_put h.nd hq with rfl | ⟨hq, hn⟩
    · exact hx
    · exact hold q hq hn
  · rcases mem_put h.nd hq with rfl | ⟨hq, hn⟩
    · rcases mem_put h.nd hq' with rfl | ⟨hq', hn'⟩
      · exact absurd rfl hne
      · exact (hap q' hq' hn').symm
    · rcases mem_put h.nd hq' with rfl | ⟨hq', hn'⟩
      · exact hap q hq hn
      · exact h.apart q hq q' hq' hne
theorem sub_del (M : Gss) (n : Int) : List.Sublist (mdel M n) M := by
  induction M with
  | nil => exact List.Sublist.refl _
  | cons p m ih =>
    unfold mdel
    split
    · exact List.sublist_cons_self _ _
    · exact ih.cons_cons _
theorem DAt.del (h : DAt ok w p S M b) {n : Int} (hS : S'.L = mdel S.L n) (hp : w1.heap[p]? = some (.cells (dcs S' b) 79 (0, 0))) (hm : MapIs ek gval domI w1 b (mdel M n)) (hold : ∀ q ∈ M, SegAt ok w1 q.2) : DAt ok w1 p S' (mdel M n) b :=
  ⟨h.pk, hp, h.bk, hm, by rw [hS, h.L, del_map], fun q hq => hold q ((sub_del M n).subset hq), fun q hq q' hq' => h.apart q ((sub_del M n).subset hq) q' ((sub_del M n).subset hq')⟩
/-- A cell of the disk's own block turns. -/
theorem DAt.own (h : DAt ok w p S M b) (hS : S'.L = S.L) (j : Nat) (u : Value) (e : (dcs S b).setIfInBounds j u = dcs S' b) : DAt ok (w.setCell ⟨p, j, none⟩ u) p S' M b ∧ Fz ok w (w.setCell ⟨p, j, none⟩ u) := by
  refine ⟨⟨h.pk, blk_put h.blk j u e, h.bk, h.map.move (Below.heap_setCell w ⟨p, j, none⟩ u b (fun e => ?_)), by rw [hS]; exact h.L, fun q hq => ?_, h.apart⟩, (Fz.refl ok w).set h.blk (by simp) h.pk j u⟩
  · simp only [] at e
    obtain ⟨es, c, hb, _⟩ := h.map
    rw [e, h.blk] at hb
    cases hb
  · have hs := h.segs q hq
    refine ⟨hs.gk, (Below.heap_setCell w ⟨p, j, none⟩ u q.2.1 (fun e => ?_)).trans hs.blk, Kd.R_set hs.row h.blk (by simp [Kd.int, Kd.scalar]) j u⟩
    simp only [] at e
    have h1 := hs.blk
    rw [e, h.blk] at h1
    injection h1 with h1
    injection h1 with h1 h2
    cases h2
/-- A cell of a segment's block turns: the others stay. -/
theorem SegAt.other {x y : Gs} (h : SegAt ok w x) (hy : SegAt ok w y) (hf : x.1 ≠ y.1) (j : Nat) (u : Value) : SegAt ok (w.setCell ⟨y.1, j, none⟩ u) x :=
  ⟨h.gk, (Below.heap_setCell w ⟨y.1, j, none⟩ u x.1 hf).trans h.blk, Kd.R_set h.row hy.blk (by simp [Kd.int, Kd.scalar]) j u⟩
theorem DAt.map_far (h : DAt ok w p S M b) {g t : Nat} {cs : Array Value} (hg : w.heap[g]? = some (.cells cs t (0, 0))) : b ≠ g := fun e => by
  obtain ⟨es, c, hb, _⟩ := h.map
  rw [e, hg] at hb
  cases hb
theorem seg_far {x : Gs} (hs : SegAt ok w x) {g t : Nat} {cs : Array Value} (hg : w.heap[g]? = some (.cells cs t (0, 0))) (ht : t ≠ 91) : x.1 ≠ g := fun e => by
  have h1 := hs.blk
  rw [e, hg] at h1
  injection h1 with h1
  injection h1 with h1 h2
  exact ht h2
/-- A row of bytes grows: other segments stay. -/
theorem SegAt.grown {x y : Gs} (h : SegAt ok w x) (hf : Far x y) (hr : Kd.R (Kd.int .u8) 5 w 0 ok y.2.1 y.2.2.1) (hg : w.grownBy w1 y.2.1.ownBlock) : SegAt ok w1 x := by
  refine ⟨h.gk, blk_grown h.blk hg (fun e => ?_), ?_⟩
  · obtain ⟨cs, hc⟩ := Kd.R_typed hr x.1 e.symm
    have h1 := h.blk
    rw [hc] at h1
    injection h1 with h1
    injection h1 with h1 h2
    cases h2
  · exact Kd.R_grown2 h.row rfl hg (fun k hk e => hf.row k e.symm hk)
end
end Go.Proofs.Ytnplnelhodnonaa.Dsk
