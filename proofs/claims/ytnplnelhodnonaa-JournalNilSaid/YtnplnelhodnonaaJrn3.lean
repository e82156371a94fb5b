/- The journal: the first record. -/
import Derived.Test.YtnplnelhodnonaaJrn2
namespace Go.Proofs.Ytnplnelhodnonaa.Dsk
open Go.RowKit Go.Proofs.YtnplnelhodnonaaW.PrintWords Go.Proofs.YtnplnelhodnonaaW.PrintLast Go.Proofs.YtnplnelhodnonaaW.PrintMore Go.Proofs.Ytnplnelhodnonaa.PJournalNil
open Amap Frm
set_option linter.unusedVariables false
set_option linter.unusedSimpArgs false
theorem jc_cells {w : World} {q p : Nat} {a b : Value} {s : Int} (h : w.heap[q]? = some (.cells (jc p a b s) 99 (0, 0))) : w.cell? ⟨q, 0, none⟩ = some (ep p) ∧ w.cell? ⟨q, 1, none⟩ = some a ∧ w.cell? ⟨q, 2, none⟩ = some b ∧ w.cell? ⟨q, 3, none⟩ = some (.int .i64 s) ∧ w.cell? ⟨q, 4, none⟩ = some (.bool false) ∧ w.cell? ⟨q, 5, none⟩ = some (.bool false) :=
  ⟨(blk_cell h 0).trans rfl, (blk_cell h 1).trans rfl, (blk_cell h 2).trans rfl, (blk_cell h 3).trans rfl, (blk_cell h 4).trans rfl, (blk_cell h 5).trans rfl⟩
theorem blk_same {w : World} {g t : Nat} {cs : Array Value} (h : w.heap[g]? = some (.cells cs t (0, 0))) (j : Nat) (u : Value) (hu : cs[j]? = some u) : (w.setCell ⟨g, j, none⟩ u).heap[g]? = some (.cells cs t (0, 0)) := by
  refine blk_put h j u ?_
  rw [Array.getElem?_eq_some_iff] at hu
  obtain ⟨hj, e⟩ := hu
  refine Array.ext (by simp) (fun i h1 h2 => ?_)
  rw [Array.getElem_setIfInBounds]
  split
  · rename_i e1
    subst e1
    exact e.symm
  · rfl
set_option maxHeartbeats 4000000 in
set_option maxRecDepth 100000 in
theorem put_first (jb p m : Nat) (a b : Value) (s r lf x : Int) (L : List Int) (A : Option Addr) (cp b1 base : Nat) (ok1 : Nat → Prop) (w : World) (hj : w.heap[jb]? = some (.cells (jc p a b s) 99 (0, 0))) (hp : w.heap[p]? = some (.cells (dkr m r lf) 79 (0, 0))) (hm : MapIs ek ep domI w m []) (hq : Kd.R (Kd.int .u8) 5 w b1 ok1 (.slice A L.length cp) L) (hx0 : 0 ≤ x) (hx : domI x) (hL : (L.length : Int) ≤ r) (hL2 : L.length ≤ 1000000) (hbp : base ≤ p) (hbm : base ≤ m) (hbj : base ≤ jb) (hpm : p ≠ m) :
    Calls Try.prog 57 #[ep jb, .int .i64 x, .slice A L.length cp] w fun e w' => e = .returned (.int .i64 0) ∧ w'.heap[jb]? = some (.cells (jc p a b s) 99 (0, 0)) ∧ Below base w w' := by
  have hA := Aside0.mk (Append_first p m r lf x L A cp b1 base ok1 w hp hm hq hx0 hx hL hL2 hbp hbm hpm)
  obtain ⟨c0, c1, c2, c3, c4, c5⟩ := jc_cells hj
  have hj' := Aside0.mk hj
  have hx' := Aside0.mk hx
  have hbp' := Aside0.mk hbp
  have hbj' := Aside0.mk hbj
  have hbs := Aside0.mk (show base ≤ w.heap.size by have := blk_lt hp; omega)
  clear hj hp hm hq hx0 hx hL hL2 hbp hbm hpm hbj
  unfold ep at hA c0 ⊢
  go_enter Try.func57, Try.ntmps57
  go_upto_region 2 with (first
    | (go_at_call 23; (with_reducible refine hA.out.mono ?_); rintro e w1 ⟨rfl, hF1, g, A', c', hp1, hm1, hg1, hsg⟩; have hF1' := Aside0.mk hF1; have hp1' := Aside0.mk hp1; have hm1' := Aside0.mk hm1; have hg1' := Aside0.mk hg1; have hsg' := Aside0.mk hsg; clear hF1 hp1 hm1 hg1 hsg)
    | fail)
  have hj1 := hF1'.out.same jb _ hj'.out (by simp [Still])
  obtain ⟨d0, d1, d2, d3, d4, d5⟩ := jc_cells hj1
  have hS := Aside0.mk (Sync_one p m g L.length c' A' 0 r (less lf) x w1 hp1'.out hm1'.out hx'.out hg1'.out)
  obtain ⟨W2, hW2⟩ : ∃ W2, (w1.setCell ⟨p, 2, none⟩ (.int .i64 (less (less lf)))).setCell ⟨g, 1, none⟩ (.int .i64 (L.length : Int)) = W2 := ⟨_, rfl⟩
  have hF2 : Fr [79, 91] true base w W2 := by
    rw [← hW2]
    have h1 := hF1'.out.set hp1'.out (by simp) hbp'.out 2 (.int .i64 (less (less lf)))
    have hpg : g ≠ p := fun e => by have := hg1'.out; subst e; rw [hp1'.out] at this; cases this
    exact h1.set ((Below.heap_setCell w1 ⟨p, 2, none⟩ _ g hpg).trans hg1'.out) (by simp) (by have := hsg'.out; have := hbs.out; omega) 1 _
  rw [hW2] at hS
  have hF2' := Aside0.mk hF2
  have hj2 := hF2'.out.same jb _ hj'.out (by simp [Still])
  obtain ⟨x0, x1, x2, x3, x4, x5⟩ := jc_cells hj2
  have f5 := blk_frozen hj2 5
  have hj2' := Aside0.mk hj2
  have d0' := Aside0.mk d0
  unfold ep at d0 hS x0
  clear hF2 hj1 hj2 c0 c1 c2 c3 c4 c5 hW2
  go_wp2_with (first
    | (go_at_call 24; (with_reducible refine hS.out.mono ?_); rintro e w2 ⟨rfl, hw2⟩; subst w2)
    | fail)
  go_ret
  exact ⟨rfl, blk_same hj2'.out 5 _ rfl, hF2'.out.below.setCell hbj'.out _⟩
end Go.Proofs.Ytnplnelhodnonaa.Dsk
