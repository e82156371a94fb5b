/- Where the document's disk lies in memory; New, find, burn, Used, walked. -/
import Derived.Test.YtnplnelhodnonaaDkCrash2
namespace Go.Proofs.Ytnplnelhodnonaa.Dsk
open Go.RowKit Go.Proofs.YtnplnelhodnonaaW.PrintWords Go.Proofs.YtnplnelhodnonaaW.PrintLast Go.Proofs.YtnplnelhodnonaaW.PrintMore
open Amap Frm
set_option linter.unusedVariables false
set_option linter.unusedSimpArgs false
def kNat : Kd Nat := Kd.scalar (fun n => .int .i64 (n : Int)) (fun _ => rfl)
def kSeg : Kd (Int × Sg) := Kd.pair (Kd.int .i64) (Kd.pair (Kd.slice 5 (Kd.int .u8)) kNat)
theorem kSeg_sz : kSeg.sz = 3 := rfl
theorem kSeg_open {w : World} {base : Nat} {ok : Nat → Prop} {x : Int × Sg} {cs : List Value} (h : kSeg.M w base ok x cs) :
    ∃ A c, cs = [.int .i64 x.1, .slice A x.2.1.length c, .int .i64 (x.2.2 : Nat)] ∧ Kd.R (Kd.int .u8) 5 w base ok (.slice A x.2.1.length c) x.2.1 := by
  obtain ⟨c0, c1, rfl, h2, c2, c3, rfl, ⟨v, rfl, hR⟩, h3⟩ := h
  obtain ⟨A, c, rfl⟩ := Kd.R_slice hR
  obtain rfl : c0 = _ := h2
  obtain rfl : c3 = _ := h3
  exact ⟨A, c, rfl, hR⟩
theorem kSeg_mk {w : World} {base : Nat} {ok : Nat → Prop} {x : Int × Sg} {v : Value} (h : Kd.R (Kd.int .u8) 5 w base ok v x.2.1) : kSeg.M w base ok x [.int .i64 x.1, v, .int .i64 (x.2.2 : Nat)] :=
  ⟨[.int .i64 x.1], [v, .int .i64 (x.2.2 : Nat)], rfl, rfl, [v], [.int .i64 (x.2.2 : Nat)], rfl, ⟨v, rfl, h⟩, rfl⟩
def rcs (R : RSt) (v : Value) : Array Value := #[v, .int .i64 R.room, .int .i64 R.fuse, .bool R.dead]
structure RAt (ok : Nat → Prop) (w : World) (p : Nat) (R : RSt) (v : Value) : Prop where
  pk : ok p
  blk : w.heap[p]? = some (.cells (rcs R v) 71 (0, 0))
  row : Kd.R kSeg 81 w 0 (fun k => ok k ∧ k ≠ p) v R.L
/-- The document's disk lies at p; all its blocks are ok. -/
def IsR (ok : Nat → Prop) (w : World) (p : Nat) (R : RSt) : Prop := ∃ v, RAt ok w p R v
structure Fy (ok : Nat → Prop) (w w' : World) : Prop where
  fr : Fr [71, 81] false 0 w w'
  kp : Kp ok w w'
section
variable {ok ok' : Nat → Prop} {w w1 w2 : World} {p : Nat} {R R' : RSt} {v : Value}
theorem RAt.below (h : RAt ok w p R v) (hb : Below w.heap.size w w1) : RAt ok w1 p R v := ⟨h.pk, blk_below h.blk hb, Kd.R_below h.row hb⟩
theorem IsR.below (h : IsR ok w p R) (hb : Below w.heap.size w w1) : IsR ok w1 p R := by
  obtain ⟨v, h⟩ := h
  exact ⟨v, h.below hb⟩
theorem IsR.refoot (h : IsR ok w p R) (H : ∀ k, ok k → k < w.heap.size → ok' k) : IsR ok' w p R := by
  obtain ⟨v, h⟩ := h
  exact ⟨v, H p h.pk (blk_lt h.blk), h.blk, Kd.R_mono (Kd.R_bound h.row) (fun k hk => ⟨H k hk.1.1 hk.2.2.1, hk.1.2⟩)⟩
theorem IsR.move (h : IsR ok w p R) (H : ∀ k, ok k → k < w.heap.size → w1.heap[k]? = w.heap[k]?) : IsR ok w1 p R := by
  obtain ⟨v, h⟩ := h
  exact ⟨v, h.pk, (H p h.pk (blk_lt h.blk)).trans h.blk, Kd.R_mono (Kd.R_move (Kd.R_bound h.row) (fun k hk => H k hk.1.1 hk.2.2.1)) (fun k hk => hk.1)⟩
theorem Fy.refl (ok : Nat → Prop) (w : World) : Fy ok w w := ⟨Fr.refl _ _ _ _, Kp.refl _ _⟩
theorem Fy.trans (h : Fy ok w w1) (k : Fy ok w1 w2) : Fy ok w w2 := ⟨h.fr.trans k.fr, h.kp.trans k.kp⟩
theorem Fy.of_below (h : Below w.heap.size w w1) : Fy ok w w1 := ⟨Fr.of_below (Nat.zero_le _) h _ _, Kp.of_below h _⟩
theorem Fy.drewN (h : Fy ok w w1) (n : Nat) : Fy ok w (w1.drewN n) := ⟨h.fr.drewN n, h.kp.drewN n⟩
theorem Fy.drew (h : Fy ok w w1) : Fy ok w w1.drew := ⟨h.fr.drew, h.kp.drew⟩
theorem Fy.size (h : Fy ok w w1) : w.heap.size ≤ w1.heap.size := h.fr.below.size
theorem Fy.set (h : Fy ok w w1) {g t : Nat} {cs : Array Value} (hg : w1.heap[g]? = some (.cells cs t (0, 0))) (ht : t ∈ [71, 81]) (hk : ok g) (j : Nat) (u : Value) : Fy ok w (w1.setCell ⟨g, j, none⟩ u) := ⟨h.fr.set hg ht (Nat.zero_le _) j u, h.kp.set hk j u⟩
/-- A row of bytes, of numbers stays. -/
theorem Fy.C {base : Nat} {ok' : Nat → Prop} {v : Value} {x : List Int} (h : Fy ok w w1) (hR : Kd.R (Kd.int .u8) 5 w base ok' v x) : Kd.R (Kd.int .u8) 5 w1 base ok' v x := R_fr hR h.fr (by simp [Kd.int, Kd.scalar])
theorem RAt.form (h : RAt ok w p R v) : ∃ A cap, v = .slice A R.L.length cap ∧ R.L.length ≤ cap := by
  obtain ⟨A, c, rfl, hc, _⟩ := Kd.R_reads h.row
  exact ⟨A, c, rfl, hc⟩
theorem RAt.cells (h : RAt ok w p R v) : w.cell? ⟨p, 0, none⟩ = some v ∧ w.cell? ⟨p, 1, none⟩ = some (.int .i64 R.room) ∧ w.cell? ⟨p, 2, none⟩ = some (.int .i64 R.fuse) ∧ w.cell? ⟨p, 3, none⟩ = some (.bool R.dead) :=
  ⟨(blk_cell h.blk 0).trans rfl, (blk_cell h.blk 1).trans rfl, (blk_cell h.blk 2).trans rfl, (blk_cell h.blk 3).trans rfl⟩
theorem RAt.elem {A : Option Addr} {n cap : Nat} (h : RAt ok w p R (.slice A n cap)) {i : Nat} {q : Int × Sg} (hq : R.L[i]? = some q) :
    ∃ g A2 c2, A = some ⟨g, 0, none⟩ ∧ w.cell? ⟨g, i * 3, none⟩ = some (.int .i64 q.1) ∧ w.cell? ⟨g, i * 3 + 1, none⟩ = some (.slice A2 q.2.1.length c2) ∧ w.cell? ⟨g, i * 3 + 2, none⟩ = some (.int .i64 (q.2.2 : Nat)) ∧ w.frozen? ⟨g, i * 3 + 1, none⟩ = false ∧ w.frozen? ⟨g, i * 3 + 2, none⟩ = false ∧ Kd.R (Kd.int .u8) 5 w 0 (fun k => (ok k ∧ k ≠ p) ∧ k ≠ g) (.slice A2 q.2.1.length c2) q.2.1 := by
  obtain ⟨hn, _, _⟩ := Kd.R_reads' h.row
  have hi : i < R.L.length := (List.getElem?_eq_some_iff.1 hq).1
  obtain ⟨g, cap', he, _, _, _⟩ := Kd.R_form h.row (by omega)
  cases he
  obtain ⟨c, hcl, hM, hcc, hfz⟩ := Kd.R_elem h.row (0, ([], 0)) (i : Int) (by omega) (by omega)
  have hge : R.L.getD ((i : Int)).toNat (0, ([], 0)) = q := by simp [List.getD_eq_getElem?_getD, hq]
  rw [hge] at hM
  obtain ⟨A2, c2, rfl, hR⟩ := kSeg_open hM
  rw [kSeg_sz, show ((i : Int)).toNat = i from by simp] at hcc hfz
  exact ⟨g, A2, c2, rfl, hcc 0 _ rfl, hcc 1 _ rfl, hcc 2 _ rfl, hfz 1, hfz 2, hR⟩
/-- A cell of the disk's own block turns. -/
theorem RAt.own (h : RAt ok w p R v) (hL : R'.L = R.L) (j : Nat) (u : Value) (e : (rcs R v).setIfInBounds j u = rcs R' v) : RAt ok (w.setCell ⟨p, j, none⟩ u) p R' v ∧ Fy ok w (w.setCell ⟨p, j, none⟩ u) := by
  refine ⟨⟨h.pk, blk_put h.blk j u e, ?_⟩, (Fy.refl ok w).set h.blk (by simp) h.pk j u⟩
  rw [hL]
  exact Kd.R_far h.row (fun k hk => hk.2) u
end
set_option maxHeartbeats 2000000 in
set_option maxRecDepth 100000 in
theorem RNew_calls (n : Int) (w : World) (ok : Nat → Prop) (hok : ∀ k, w.heap.size ≤ k → ok k) : Calls Try.prog 13 #[.int .i64 n] w fun e w' => e = .returned (.pointer (some ⟨w.heap.size, 0, none⟩)) ∧ IsR ok w' w.heap.size ⟨[], max n 0, -1, false⟩ ∧ Below w.heap.size w w' := by
  go_enter Try.func13, Try.ntmps13
  go_wp2
  go_ret
  refine ⟨rfl, ⟨.slice none 0 0, hok _ (Nat.le_refl _), blk_new _ _, Kd.R_nil _ _ _ _ _⟩, below_alloc (Below.refl _ _) _⟩
set_option maxHeartbeats 2000000 in
set_option maxRecDepth 100000 in
theorem rburn_calls (R : RSt) (hf : R.fuse ≤ 9223372036854775807) (v : Value) (ok : Nat → Prop) (p : Nat) (w : World) (h : RAt ok w p R v) : Calls Try.prog 63 #[.pointer (some ⟨p, 0, none⟩)] w fun e w' => e = .returned (.bool (rburn R).2) ∧ RAt ok w' p (rburn R).1 v ∧ Fy ok w w' := by
  obtain ⟨L, r, f, d⟩ := R
  obtain ⟨c0, c1, c2, c3⟩ := h.cells
  simp only [] at c0 c1 c2 c3 hf
  have f2 := blk_frozen h.blk 2
  have f3 := blk_frozen h.blk 3
  have h' := Aside0.mk h
  clear h
  by_cases h0 : f = 0
  · subst h0
    have e : rburn ⟨L, r, 0, d⟩ = (⟨L, r, 0, true⟩, false) := by unfold rburn; rw [if_pos rfl]
    rw [e]
    clear e
    go_enter Try.func63, Try.ntmps63
    go_wp2
    go_ret
    exact ⟨rfl, h'.out.own (R' := ⟨L, r, 0, true⟩) rfl 3 _ rfl⟩
  · by_cases h1 : f > 0
    · have e : rburn ⟨L, r, f, d⟩ = (⟨L, r, f - 1, d⟩, true) := by unfold rburn; rw [if_neg h0, if_pos h1]
      rw [e]
      clear e
      have h0' : (f == 0) = false := by simpa using h0
      have hw : IntKind.i64.wrap (f - 1) = f - 1 := by simp [IntKind.wrap, IntKind.signed, IntKind.bits]; omega
      clear h0 hf
      go_enter Try.func63, Try.ntmps63
      go_wp2
      go_ret
      exact ⟨rfl, h'.out.own (R' := ⟨L, r, f - 1, d⟩) rfl 2 _ rfl⟩
    · have e : rburn ⟨L, r, f, d⟩ = (⟨L, r, f, d⟩, true) := by unfold rburn; rw [if_neg h0, if_neg h1]
      rw [e]
      clear e
      have h0' : (f == 0) = false := by simpa using h0
      clear h0 hf
      go_enter Try.func63, Try.ntmps63
      go_wp2
      go_ret
      exact ⟨rfl, h'.out, Fy.refl _ _⟩
theorem used_take (L : Sgs) {i : Nat} {q : Int × Sg} (h : L[i]? = some q) : used (L.take (i + 1)) = used (L.take i) + q.2.1.length := by
  induction L generalizing i with
  | nil => simp at h
  | cons x L ih =>
    cases i with
    | zero => simp at h; subst h; simp [used]
    | succ i =>
      simp only [List.getElem?_cons_succ] at h
      simp only [List.take_succ_cons, used, ih h]
      omega
theorem used_le (L : Sgs) (i : Nat) : used (L.take i) ≤ used L := used_sub (List.take_sublist _ _)
set_option maxHeartbeats 1000000 in
set_option maxRecDepth 100000 in
theorem RUsed_calls (R : RSt) (ht : used R.L ≤ 100000000) (hl : R.L.length ≤ 100000) (ok : Nat → Prop) (p : Nat) (w : World) (h : IsR ok w p R) : Calls Try.prog 46 #[.pointer (some ⟨p, 0, none⟩)] w fun e w' => e = .returned (.int .i64 (used R.L : Nat)) ∧ w = w' := by
  obtain ⟨v, h⟩ := h
  obtain ⟨A, cap, rfl, hcap⟩ := h.form
  obtain ⟨p1, _, _, _⟩ := h.cells
  have h' := Aside0.mk h
  have htl : ∀ i, used (R.L.take i) ≤ 100000000 := fun i => Nat.le_trans (used_le R.L i) ht
  have htl' := Aside0.mk htl
  clear h htl
  go_enter Try.func46, Try.ntmps46
  go_wp2_with fail
  go_loopg [10, 3] (R.L.length + 1) (fun kq v10 v3 w' => ∃ (i : Nat), v10 = .int .i64 (i : Int) ∧ v3 = .int .i64 ((used (R.L.take i) : Nat) : Int) ∧ Aside0 (kq + i = R.L.length + 1) ∧ Aside0 (i ≤ R.L.length) ∧ w' = w)
  case atStart => exact ⟨0, rfl, rfl, ⟨by omega⟩, ⟨by omega⟩, rfl⟩
  case round =>
    obtain ⟨i, rfl, rfl, hk, hi, rfl⟩ := hrel
    by_cases hlt : i < R.L.length
    · have hd : decide ((i : Int) < (R.L.length : Int)) = true := decide_eq_true (by omega)
      have hd' : decide (i < R.L.length) = true := decide_eq_true hlt
      cases gk with
      | zero => exact absurd hk.out (by omega)
      | succ k1 =>
        have hlt' := Aside0.mk hlt
        obtain ⟨q, hq⟩ : ∃ q, R.L[i]? = some q := ⟨_, List.getElem?_eq_getElem hlt⟩
        obtain ⟨g, A2, c2, rfl, _, x1, _, _, _, _⟩ := h'.out.elem hq
        have hts := Aside0.mk (used_take R.L hq)
        have hb1 := htl'.out i
        have hb2 := htl'.out (i + 1)
        rw [used_take R.L hq] at hb2
        obtain ⟨ql, hql⟩ : ∃ ql, q.2.1.length = ql := ⟨_, rfl⟩
        rw [hql] at x1 hts hb2
        clear hq hql
        go_wp2_with fail
        go_roundg k1
        case measure => have := hk.out; omega
        case rel => exact ⟨i + 1, by go_num, by rw [hts.out]; go_num, ⟨by have := hk.out; omega⟩, ⟨by have := hlt'.out; omega⟩, rfl⟩
    · have hd : decide ((i : Int) < (R.L.length : Int)) = false := decide_eq_false (by omega)
      have hd' : decide (i < R.L.length) = false := decide_eq_false hlt
      obtain rfl : i = R.L.length := by have := hi.out; omega
      go_wp2
      go_ret
      exact ⟨by rw [List.take_length]; rfl, rfl⟩
set_option maxHeartbeats 1000000 in
set_option maxRecDepth 100000 in
/-- find: the first of number n, or -1. -/
theorem rfind_calls (R : RSt) (n : Int) (hl : R.L.length ≤ 100000) (v : Value) (ok : Nat → Prop) (p : Nat) (w : World) (h : RAt ok w p R v) : Calls Try.prog 64 #[.pointer (some ⟨p, 0, none⟩), .int .i64 n] w fun e w' => w = w' ∧ ((mlook R.L n = none ∧ e = .returned (.int .i64 (-1))) ∨ ∃ (i : Nat) (s : Sg), R.L[i]? = some (n, s) ∧ e = .returned (.int .i64 (i : Int))) := by
  obtain ⟨A, cap, rfl, hcap⟩ := h.form
  obtain ⟨p1, _, _, _⟩ := h.cells
  have h' := Aside0.mk h
  clear h
  go_enter Try.func64, Try.ntmps64
  go_wp2_with fail
  go_loopg [11] (R.L.length + 1) (fun kq v11 w' => ∃ (i : Nat), v11 = .int .i64 (i : Int) ∧ Aside0 (kq + i = R.L.length + 1) ∧ Aside0 (i ≤ R.L.length) ∧ Aside0 (∀ j q, j < i → R.L[j]? = some q → q.1 ≠ n) ∧ w' = w)
  case atStart => exact ⟨0, rfl, ⟨by omega⟩, ⟨by omega⟩, ⟨fun j q hj => absurd hj (by omega)⟩, rfl⟩
  case round =>
    obtain ⟨i, rfl, hk, hi, hnf, rfl⟩ := hrel
    by_cases hlt : i < R.L.length
    · have hd : decide ((i : Int) < (R.L.length : Int)) = true := decide_eq_true (by omega)
      have hd' : decide (i < R.L.length) = true := decide_eq_true hlt
      cases gk with
      | zero => exact absurd hk.out (by omega)
      | succ k1 =>
        have hlt' := Aside0.mk hlt
        obtain ⟨⟨qn, qs⟩, hq⟩ : ∃ q, R.L[i]? = some q := ⟨_, List.getElem?_eq_getElem hlt⟩
        obtain ⟨g, A2, c2, rfl, x0, _, _, _, _, _⟩ := h'.out.elem hq
        have hq' := Aside0.mk hq
        simp only [] at x0
        clear hq
        by_cases e1 : qn = n
        · subst e1
          go_wp2_with fail
          go_ret
          exact ⟨rfl, .inr ⟨i, ⟨qs.1, qs.2, hq'.out⟩, rfl⟩⟩
        · have e1' : (qn == n) = false := by simpa using e1
          have e1'' := Aside0.mk e1
          clear e1
          go_wp2_with fail
          go_roundg k1
          case measure => have := hk.out; omega
          case rel => exact ⟨i + 1, by go_num, ⟨by have := hk.out; omega⟩, ⟨by have := hlt'.out; omega⟩, ⟨fun j q hj hq => by
              by_cases hji : j = i
              · subst hji
                rw [hq'.out] at hq
                cases hq
                exact e1''.out
              · exact hnf.out j q (by omega) hq⟩, rfl⟩
    · have hd : decide ((i : Int) < (R.L.length : Int)) = false := decide_eq_false (by omega)
      have hd' : decide (i < R.L.length) = false := decide_eq_false hlt
      have hie := Aside0.mk (show i = R.L.length by have := hi.out; omega)
      go_wp2
      go_ret
      refine ⟨rfl, .inl ⟨mlook_none.2 (fun q hq => ?_), rfl⟩⟩
      obtain ⟨j, hj⟩ := List.getElem?_of_mem hq
      exact hnf.out j q (by have := (List.getElem?_eq_some_iff.1 hj).1; have := hie.out; omega) hj
theorem at_look {L : Sgs} (hn : nd L) {i : Nat} {n : Int} {s : Sg} (h : L[i]? = some (n, s)) : mlook L n = some s := mlook_at hn h
end Go.Proofs.Ytnplnelhodnonaa.Dsk
