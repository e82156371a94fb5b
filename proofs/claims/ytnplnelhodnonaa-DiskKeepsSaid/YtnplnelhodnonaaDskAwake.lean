/- The disk: the first piece of a new one; awake. -/
import Derived.Test.YtnplnelhodnonaaDskUsed
namespace Go.Proofs.Ytnplnelhodnonaa.Dsk
open Go.RowKit Go.Proofs.YtnplnelhodnonaaW.PrintWords Go.Proofs.YtnplnelhodnonaaW.PrintLast Go.Proofs.YtnplnelhodnonaaW.PrintMore Go.Proofs.Ytnplnelhodnonaa.PDiskNil
open Amap Frm
set_option linter.unusedVariables false
set_option linter.unusedSimpArgs false
def dk (m : Nat) (l : Int) : Array Value := #[.map (some m), .int .i64 100, .int .i64 l, .bool false, .bool false]
theorem dk_cells {w : World} {p m : Nat} {l : Int} (h : w.heap[p]? = some (.cells (dk m l) 79 (0, 0))) : w.cell? ⟨p, 0, none⟩ = some (.map (some m)) ∧ w.cell? ⟨p, 1, none⟩ = some (.int .i64 100) ∧ w.cell? ⟨p, 2, none⟩ = some (.int .i64 l) ∧ w.cell? ⟨p, 3, none⟩ = some (.bool false) ∧ w.cell? ⟨p, 4, none⟩ = some (.bool false) :=
  ⟨(blk_cell h 0).trans rfl, (blk_cell h 1).trans rfl, (blk_cell h 2).trans rfl, (blk_cell h 3).trans rfl, (blk_cell h 4).trans rfl⟩
set_option maxHeartbeats 2000000 in
set_option maxRecDepth 100000 in
theorem burn_0 (p m : Nat) (w : World) (hp : w.heap[p]? = some (.cells (dk m 0) 79 (0, 0))) : Calls Try.prog 51 #[ep p] w fun e w' => e = .returned (.bool true) ∧ w' = w.setCell ⟨p, 2, none⟩ (.int .i64 (-1)) := by
  obtain ⟨c0, c1, c2, c3, c4⟩ := dk_cells hp
  have f2 := blk_frozen hp 2
  clear hp
  unfold ep
  go_enter Try.func51, Try.ntmps51
  go_wp2
  go_ret
  exact ⟨rfl, rfl⟩
theorem two_bytes {W : World} {q : Nat} {z : Nat × Nat} (h : W.heap[q]? = some (.cells #[.int .u8 97, .int .u8 98] 5 z)) : Kd.C (Kd.int .u8) W (some ⟨q, 0, none⟩) 2 [97, 98] := by
  refine ⟨rfl, by decide, fun _ => ⟨_, rfl, fun j p hj => ?_⟩⟩
  have e0 : W.cell? ⟨q, 0, none⟩ = some (.int .u8 97) := by simp [World.cell?, h]
  have e1 : W.cell? ⟨q, 1, none⟩ = some (.int .u8 98) := by simp [World.cell?, h]
  cases j with
  | zero =>
    simp at hj
    subst hj
    refine ⟨[.int .u8 97], rfl, rfl, fun i u hu => ?_⟩
    cases i with
    | zero =>
      simp at hu
      subst hu
      simpa [Addr.add] using e0
    | succ i => simp at hu
  | succ j =>
    cases j with
    | zero =>
      simp at hj
      subst hj
      refine ⟨[.int .u8 98], rfl, rfl, fun i u hu => ?_⟩
      cases i with
      | zero =>
        simp at hu
        subst hu
        exact e1
      | succ i => simp at hu
    | succ j => simp at hj
theorem info5 : (Try.prog.info? 5).map (fun i => (i.zero, i.size, i.bytes)) = some (some (.int .u8 0), 1, 1) := by kernel_rfl
theorem dom1 : domI 1 := by
  unfold domI
  decide
set_option maxHeartbeats 4000000 in
set_option maxRecDepth 100000 in
theorem Append_new (p m q : Nat) (z : Nat × Nat) (cp base : Nat) (w : World) (hp : w.heap[p]? = some (.cells (dk m 0) 79 (0, 0))) (hm : MapIs ek ep domI w m []) (hq : w.heap[q]? = some (.cells #[.int .u8 97, .int .u8 98] 5 z)) (hqp : q ≠ p) (hqm : q ≠ m) (hbp : base ≤ p) (hbm : base ≤ m) (hpm : p ≠ m) :
    Calls Try.prog 23 #[ep p, .int .i64 1, .slice (some ⟨q, 0, none⟩) 2 cp] w fun e w' => e = .returned (.int .i64 0) ∧ Below base w w' ∧ ∃ g A c, w'.heap[p]? = some (.cells (dk m (-1)) 79 (0, 0)) ∧ MapIs ek ep domI w' m [(1, g)] ∧ w'.heap[g]? = some (.cells #[.slice A 2 c, .int .i64 0] 91 (0, 0)) := by
  have hpl := blk_lt hp
  have hml := hm.lt
  have hp' := Aside0.mk hp
  have hm' := Aside0.mk hm
  have hq' := Aside0.mk hq
  have hU : Aside0 (Calls Try.prog 27 #[ep p] w.drew fun e w' => e = .returned (.int .i64 0) ∧ Below w.drew.heap.size w.drew w') := ⟨Used_0 p m 100 0 false false w.drew hp (hm.move rfl)⟩
  obtain ⟨c0, c1, c2, c3, c4⟩ := dk_cells hp
  have hbs := Aside0.mk (show base ≤ w.heap.size by omega)
  have hpl' := Aside0.mk hpl
  have hml' := Aside0.mk hml
  have hbp' := Aside0.mk hbp
  have hbm' := Aside0.mk hbm
  clear hm hq hp hpl hml hbp hbm
  unfold ep at hU ⊢
  go_enter Try.func23, Try.ntmps23
  have hc2 : IntKind.i64.wrap (2 : Int) = 2 := by decide
  go_upto_region 7 with fail
  go_region_held3 (fun w' => w'.cell? ⟨p, 1, none⟩ = some (.int .i64 100))
    (first | (exact c1) | (exact (dk_cells (blk_below hp'.out hX1.out)).2.1))
    (first
      | (go_at_call 27; (with_reducible refine hU.out.mono ?_); rintro e w1 ⟨rfl, hb1⟩; have hX1 : Aside0 (Below w.heap.size w w1) := ⟨(below_drew (Below.refl _ _)).trans hb1⟩; clear hb1)
      | fail)
  have hp1 := blk_below hp'.out hX1.out
  have hm1 : MapIs ek ep domI w1 m ([] : List (Int × Nat)) := hm'.out.move (hX1.out.block m hml'.out)
  have hq1 := blk_below hq'.out hX1.out
  have hs1 := hX1.out.size
  obtain ⟨d0, d1, d2, d3, d4⟩ := dk_cells hp1
  have hb := Aside0.mk (burn_0 p m w1 hp1)
  have hp1' := Aside0.mk hp1
  have hm1' := Aside0.mk hm1
  have hq1' := Aside0.mk hq1
  have hs1' := Aside0.mk hs1
  have d0' := Aside0.mk d0
  clear hp1 hm1 hq1 hs1 c0 c1 c2 c3 c4
  unfold ep at hb
  have hc2 : IntKind.i64.wrap (2 : Int) = 2 := by decide
  have hnil : ∀ W : World, (binOp BinOp.eql 77 (.map (some m)) (.map none)).run Try.prog W = .ok (.bool false) W := fun W => run_eql_map_nil (P := Try.prog) W 77 3 86 (some m) Try.underlying77
  go_upto_region 11 with (first
    | (go_at_call 51; (with_reducible refine hb.out.mono ?_); rintro e w2 ⟨rfl, hw2⟩; have hw2' := Aside0.mk hw2; clear hw2)
    | fail)
  have hw2 := hw2'.out
  have hp2 : w2.heap[p]? = some (.cells (dk m (-1)) 79 (0, 0)) := by rw [hw2]; exact blk_put hp1'.out 2 _ rfl
  have hm2 : MapIs ek ep domI w2 m ([] : List (Int × Nat)) := hm1'.out.move (by rw [hw2]; exact Below.heap_setCell w1 ⟨p, 2, none⟩ _ m (fun e => hpm e.symm))
  have hsz2 : w2.heap.size = w1.heap.size := by rw [hw2]; simp
  have hB2 : Below base w w2 := by
    rw [hw2]
    exact (hX1.out.mono (by have := hbs.out; omega)).setCell hbp'.out _
  obtain ⟨x0, x1, x2, x3, x4⟩ := dk_cells hp2
  have hlk := hm2.lookup encI Try.underlying77 (P := Try.prog) (z := .pointer none) rfl dom1 false
  have hlk' : (Instr.lookup 77 (.map (some m)) (.int .i64 1) false).run Try.prog w2 = .ok (.pointer none) w2 := hlk
  have hp2' := Aside0.mk hp2
  have hm2' := Aside0.mk hm2
  have hB2' := Aside0.mk hB2
  have hsz2' := Aside0.mk hsz2
  have hq2' : Aside0 (w2.heap[q]? = some (.cells #[.int .u8 97, .int .u8 98] 5 z)) := ⟨by rw [hw2]; exact (Below.heap_setCell w1 ⟨p, 2, none⟩ _ q hqp).trans hq1'.out⟩
  clear hw2 hp2 hm2 hB2 hsz2 hlk d0 d1 d2 d3 d4
  go_upto_region 14 with fail
  obtain ⟨g, hgd⟩ : ∃ g, w2.heap.size = g := ⟨_, rfl⟩
  have hm3 : MapIs ek ep domI (w2.alloc (.cells #[.slice none 0 0, .int .i64 0] 91)) m ([] : List (Int × Nat)) := hm2'.out.move (Below.heap_alloc _ _ _ hm2'.out.lt)
  have hup := hm3.update encI Try.underlying77 dom1 g
  have hup' := Aside0.mk hup
  have hp3 := Aside0.mk (blk_alloc hp2'.out (.cells #[.slice none 0 0, .int .i64 0] 91))
  have hq3 := Aside0.mk (blk_alloc hq2'.out (.cells #[.slice none 0 0, .int .i64 0] 91))
  have hg3 : Aside0 ((w2.alloc (.cells #[.slice none 0 0, .int .i64 0] 91)).heap[g]? = some (.cells #[.slice none 0 0, .int .i64 0] 91 (0, 0))) := ⟨by rw [← hgd]; exact blk_new _ _⟩
  have hgm : Aside0 (g ≠ m) := ⟨fun e => by have := hm2'.out.lt; omega⟩
  have hgp : Aside0 (g ≠ p) := ⟨fun e => by have := blk_lt hp2'.out; omega⟩
  have hgq : Aside0 (g ≠ q) := ⟨fun e => by have := blk_lt hq2'.out; omega⟩
  have hbg : Aside0 (base ≤ g) := ⟨by have h1 := hB2'.out.size; have h2 := hbs.out; omega⟩
  have hB3 := Aside0.mk (hB2'.out.alloc (by have h1 := hB2'.out.size; have h2 := hbs.out; omega) (.cells #[.slice none 0 0, .int .i64 0] 91))
  have hpm' := Aside0.mk hpm
  have hqm' := Aside0.mk hqm
  have hqp' := Aside0.mk hqp
  clear hm3 hup hpm hqm hqp
  go_upto_region 15 with (first
    | (at_mapUpdate; refine wpList_update_run rfl _ _ _ 77 rfl (.map (some m)) (ek 1) (ep g) rfl rfl (by rw [← hgd]; rfl) hup'.out ?_; rintro w5 ⟨hm5, hg5⟩; have hm5' := Aside0.mk hm5; have hg5' := Aside0.mk hg5; clear hm5 hg5)
    | fail)
  have hp5 : w5.heap[p]? = some (.cells (dk m (-1)) 79 (0, 0)) := (hg5'.out.block p (blk_lt hp3.out) (fun e => hpm'.out (Option.some.inj e))).trans hp3.out
  have hq5 : w5.heap[q]? = some (.cells #[.int .u8 97, .int .u8 98] 5 z) := (hg5'.out.block q (blk_lt hq3.out) (fun e => hqm'.out (Option.some.inj e))).trans hq3.out
  have hgg5 : w5.heap[g]? = some (.cells #[.slice none 0 0, .int .i64 0] 91 (0, 0)) := (hg5'.out.block g (blk_lt hg3.out) (fun e => hgm.out (Option.some.inj e))).trans hg3.out
  have hm5 : MapIs ek ep domI w5 m [(1, g)] := hm5'.out
  have hlk5 : (Instr.lookup 77 (.map (some m)) (.int .i64 1) false).run Try.prog w5 = .ok (.pointer (some ⟨g, 0, none⟩)) w5 := hm5.lookup encI Try.underlying77 (P := Try.prog) (z := .pointer none) rfl dom1 false
  obtain ⟨y0, y1, y2, y3, y4⟩ := dk_cells hp5
  have z0 : w5.cell? ⟨g, 0, none⟩ = some (.slice none 0 0) := (blk_cell hgg5 0).trans rfl
  have u0 := blk_frozen hgg5 0
  have hp5' := Aside0.mk hp5
  have hq5' := Aside0.mk hq5
  have hgg5' := Aside0.mk hgg5
  clear hp5 hq5 hgg5 hm5 hlk' x0 x1 x2 x3 x4 hnil hc2
  go_upto_region 16 with fail
  go_wp2_with (first
    | ((with_reducible refine gate_builtin (b := .append) (xs := #[.tmp 67, .tmp 68]) rfl ?_); at_builtin
       refine Kd.R_append_row (Value.int .u8) 0 (w0 := w5) w5.heap.size rfl (.tmp 67) (.tmp 68) 30 5 (.int .u8 0) 1 rfl Try.underlying30 info5 rfl (by decide) (.slice none 0 0) [] [97, 98] (some ⟨q, 0, none⟩) 2 cp (fun _ => True) rfl rfl (fun _ _ => trivial) (Kd.R_nil _ _ _ _ _) (two_bytes hq5'.out) (Below.refl _ _) (by simp) (by simp) ?_
       intro v6 w6 hR6 hB6 hg6 hat6
       rw [List.nil_append] at hR6
       obtain ⟨A6, c6, e6, hc6, hC6⟩ := Kd.R_reads hR6
       subst e6
       have hB6' := Aside0.mk hB6
       have z6 : w6.cell? ⟨g, 0, none⟩ = some (.slice none 0 0) := (blk_cell (blk_below hgg5'.out hB6) 0).trans rfl
       have u6 := blk_frozen (blk_below hgg5'.out hB6) 0
       clear hg6 hat6 hR6 hB6 hc6 hC6)
    | fail)
  go_ret
  have hg6 := blk_below hgg5'.out hB6'.out
  refine ⟨rfl, ?_, g, A6, c6, ?_, ?_, ?_⟩
  · have h5 : Below base w w5 := hB3.out.grown hg5'.out (by have h1 := hB3.out.size; have h2 := hbs.out; omega) (fun j e => by rw [← Option.some.inj e]; exact hbm'.out)
    exact (h5.trans (hB6'.out.mono (by have h1 := h5.size; have h2 := hbs.out; omega))).setCell hbg.out _
  · exact (Below.heap_setCell w6 ⟨g, 0, none⟩ _ p (fun e => hgp.out e.symm)).trans (blk_below hp5'.out hB6'.out)
  · exact (hm5'.out.move (hB6'.out.block m hm5'.out.lt)).move (Below.heap_setCell w6 ⟨g, 0, none⟩ _ m (fun e => hgm.out e.symm))
  · exact blk_put hg6 0 _ rfl
end Go.Proofs.Ytnplnelhodnonaa.Dsk
