/- The disk: the first piece of bytes of any length; synced. -/
import Derived.Test.YtnplnelhodnonaaDskSeg
namespace Go.Proofs.Ytnplnelhodnonaa.Dsk
open Go.RowKit Go.Proofs.YtnplnelhodnonaaW.PrintWords Go.Proofs.YtnplnelhodnonaaW.PrintLast Go.Proofs.YtnplnelhodnonaaW.PrintMore Go.Proofs.Ytnplnelhodnonaa.PDiskNil
open Amap Frm
set_option linter.unusedVariables false
set_option linter.unusedSimpArgs false
def dkr (m : Nat) (r l : Int) : Array Value := #[.map (some m), .int .i64 r, .int .i64 l, .bool false, .bool false]
theorem dkr_cells {w : World} {p m : Nat} {r l : Int} (h : w.heap[p]? = some (.cells (dkr m r l) 79 (0, 0))) : w.cell? ⟨p, 0, none⟩ = some (.map (some m)) ∧ w.cell? ⟨p, 1, none⟩ = some (.int .i64 r) ∧ w.cell? ⟨p, 2, none⟩ = some (.int .i64 l) ∧ w.cell? ⟨p, 3, none⟩ = some (.bool false) ∧ w.cell? ⟨p, 4, none⟩ = some (.bool false) :=
  ⟨(blk_cell h 0).trans rfl, (blk_cell h 1).trans rfl, (blk_cell h 2).trans rfl, (blk_cell h 3).trans rfl, (blk_cell h 4).trans rfl⟩
def less (l : Int) : Int := wrap64 (l - 1)
set_option maxHeartbeats 2000000 in
set_option maxRecDepth 100000 in
theorem burn_r (p m : Nat) (r l : Int) (w : World) (hp : w.heap[p]? = some (.cells (dkr m r l) 79 (0, 0))) : Calls Try.prog 51 #[ep p] w fun e w' => e = .returned (.bool true) ∧ w' = w.setCell ⟨p, 2, none⟩ (.int .i64 (less l)) := by
  obtain ⟨c0, c1, c2, c3, c4⟩ := dkr_cells hp
  have f2 := blk_frozen hp 2
  clear hp
  unfold ep less
  go_enter Try.func51, Try.ntmps51
  go_wp2
  go_ret
  exact ⟨rfl, rfl⟩
theorem mlook_one (x : Int) (g : Nat) : mlook [(x, g)] x = some g := by simp [mlook]
set_option maxHeartbeats 4000000 in
set_option maxRecDepth 100000 in
theorem Append_first (p m : Nat) (r lf x : Int) (L : List Int) (A : Option Addr) (cp b1 base : Nat) (ok1 : Nat → Prop) (w : World) (hp : w.heap[p]? = some (.cells (dkr m r lf) 79 (0, 0))) (hm : MapIs ek ep domI w m []) (hq : Kd.R (Kd.int .u8) 5 w b1 ok1 (.slice A L.length cp) L) (hx0 : 0 ≤ x) (hx : domI x) (hL : (L.length : Int) ≤ r) (hL2 : L.length ≤ 1000000) (hbp : base ≤ p) (hbm : base ≤ m) (hpm : p ≠ m) :
    Calls Try.prog 23 #[ep p, .int .i64 x, .slice A L.length cp] w fun e w' => e = .returned (.int .i64 0) ∧ Fr [79, 91] true base w w' ∧ ∃ g A' c, w'.heap[p]? = some (.cells (dkr m r (less lf)) 79 (0, 0)) ∧ MapIs ek ep domI w' m [(x, g)] ∧ w'.heap[g]? = some (.cells #[.slice A' L.length c, .int .i64 0] 91 (0, 0)) ∧ w.heap.size ≤ g := by
  have hpl := blk_lt hp
  have hml := hm.lt
  have hp' := Aside0.mk hp
  have hm' := Aside0.mk hm
  have hq' := Aside0.mk hq
  have hU : Aside0 (Calls Try.prog 27 #[ep p] w.drew fun e w' => e = .returned (.int .i64 0) ∧ Below w.drew.heap.size w.drew w') := ⟨Used_0 p m r lf false false w.drew hp (hm.move rfl)⟩
  obtain ⟨c0, c1, c2, c3, c4⟩ := dkr_cells hp
  have hbs := Aside0.mk (show base ≤ w.heap.size by omega)
  have hpl' := Aside0.mk hpl
  have hml' := Aside0.mk hml
  have hbp' := Aside0.mk hbp
  have hbm' := Aside0.mk hbm
  have hL2' := Aside0.mk hL2
  have hx' := Aside0.mk hx
  clear hm hq hp hpl hml hbp hbm hx
  unfold ep at hU ⊢
  have hx0' : ¬ (x < 0) := by omega
  have hcw : IntKind.i64.wrap (0 + (L.length : Int)) = (L.length : Int) := by simp [IntKind.wrap, IntKind.signed, IntKind.bits]; omega
  have hcw2 : IntKind.i64.wrap ((L.length : Int)) = (L.length : Int) := by simp [IntKind.wrap, IntKind.signed, IntKind.bits]; omega
  have hcr : ¬ ((L.length : Int) > r) := by omega
  clear hx0 hL hL2
  go_enter Try.func23, Try.ntmps23
  go_upto_region 7 with fail
  go_region_held3 (fun w' => w'.cell? ⟨p, 1, none⟩ = some (.int .i64 r))
    (first | (exact c1) | (exact (dkr_cells (blk_below hp'.out hX1.out)).2.1))
    (first
      | (go_at_call 27; (with_reducible refine hU.out.mono ?_); rintro e w1 ⟨rfl, hb1⟩; have hX1 : Aside0 (Below w.heap.size w w1) := ⟨(below_drew (Below.refl _ _)).trans hb1⟩; clear hb1)
      | fail)
  have hp1 := blk_below hp'.out hX1.out
  have hm1 : MapIs ek ep domI w1 m ([] : List (Int × Nat)) := hm'.out.move (hX1.out.block m hml'.out)
  have hF1 := Aside0.mk (Fr.of_below (w := w) (w1 := w1) hbs.out hX1.out [79, 91] true)
  have hs1 := hX1.out.size
  obtain ⟨d0, d1, d2, d3, d4⟩ := dkr_cells hp1
  have hb := Aside0.mk (burn_r p m r lf w1 hp1)
  have hp1' := Aside0.mk hp1
  have hm1' := Aside0.mk hm1
  have hs1' := Aside0.mk hs1
  have d0' := Aside0.mk d0
  clear hp1 hm1 hs1 c0 c1 c2 c3 c4
  unfold ep at hb
  have hnil : ∀ W : World, (binOp BinOp.eql 77 (.map (some m)) (.map none)).run Try.prog W = .ok (.bool false) W := fun W => run_eql_map_nil (P := Try.prog) W 77 3 86 (some m) Try.underlying77
  go_upto_region 11 with (first
    | (go_at_call 51; (with_reducible refine hb.out.mono ?_); rintro e w2 ⟨rfl, hw2⟩; have hw2' := Aside0.mk hw2; clear hw2)
    | fail)
  have hw2 := hw2'.out
  have hp2 : w2.heap[p]? = some (.cells (dkr m r (less lf)) 79 (0, 0)) := by rw [hw2]; exact blk_put hp1'.out 2 _ rfl
  have hm2 : MapIs ek ep domI w2 m ([] : List (Int × Nat)) := hm1'.out.move (by rw [hw2]; exact Below.heap_setCell w1 ⟨p, 2, none⟩ _ m (fun e => hpm e.symm))
  have hsz2 : w2.heap.size = w1.heap.size := by rw [hw2]; simp
  have hF2 : Fr [79, 91] true base w w2 := by
    rw [hw2]
    exact hF1.out.set hp1'.out (by simp) hbp'.out 2 _
  obtain ⟨x0, x1, x2, x3, x4⟩ := dkr_cells hp2
  have hlk := hm2.lookup encI Try.underlying77 (P := Try.prog) (z := .pointer none) rfl hx'.out false
  have hlk' : (Instr.lookup 77 (.map (some m)) (.int .i64 x) false).run Try.prog w2 = .ok (.pointer none) w2 := hlk
  have hp2' := Aside0.mk hp2
  have hm2' := Aside0.mk hm2
  have hF2' := Aside0.mk hF2
  have hsz2' := Aside0.mk hsz2
  clear hw2 hp2 hm2 hF2 hsz2 hlk d0 d1 d2 d3 d4
  go_upto_region 14 with fail
  obtain ⟨g, hgd⟩ : ∃ g, w2.heap.size = g := ⟨_, rfl⟩
  have hm3 : MapIs ek ep domI (w2.alloc (.cells #[.slice none 0 0, .int .i64 0] 91)) m ([] : List (Int × Nat)) := hm2'.out.move (Below.heap_alloc _ _ _ hm2'.out.lt)
  have hup := hm3.update encI Try.underlying77 hx'.out g
  have hup' := Aside0.mk hup
  have hp3 := Aside0.mk (blk_alloc hp2'.out (.cells #[.slice none 0 0, .int .i64 0] 91))
  have hg3 : Aside0 ((w2.alloc (.cells #[.slice none 0 0, .int .i64 0] 91)).heap[g]? = some (.cells #[.slice none 0 0, .int .i64 0] 91 (0, 0))) := ⟨by rw [← hgd]; exact blk_new _ _⟩
  have hgm : Aside0 (g ≠ m) := ⟨fun e => by have := hm2'.out.lt; omega⟩
  have hgp : Aside0 (g ≠ p) := ⟨fun e => by have := blk_lt hp2'.out; omega⟩
  have hbg : Aside0 (base ≤ g) := ⟨by have h1 := hF2'.out.below.size; have h2 := hbs.out; omega⟩
  have hwg : Aside0 (w.heap.size ≤ g) := ⟨by have h1 := hF2'.out.below.size; omega⟩
  have hF3 := Aside0.mk (hF2'.out.alloc hbs.out (.cells #[.slice none 0 0, .int .i64 0] 91))
  have hpm' := Aside0.mk hpm
  clear hm3 hup hpm
  go_upto_region 15 with (first
    | (at_mapUpdate; refine wpList_update_run rfl _ _ _ 77 rfl (.map (some m)) (ek x) (ep g) rfl rfl (by rw [← hgd]; rfl) hup'.out ?_; rintro w5 ⟨hm5, hg5⟩; have hm5' := Aside0.mk hm5; have hg5' := Aside0.mk hg5; clear hm5 hg5)
    | fail)
  have hp5 : w5.heap[p]? = some (.cells (dkr m r (less lf)) 79 (0, 0)) := (hg5'.out.block p (blk_lt hp3.out) (fun e => hpm'.out (Option.some.inj e))).trans hp3.out
  have hgg5 : w5.heap[g]? = some (.cells #[.slice none 0 0, .int .i64 0] 91 (0, 0)) := (hg5'.out.block g (blk_lt hg3.out) (fun e => hgm.out (Option.some.inj e))).trans hg3.out
  have hF5 : Fr [79, 91] true base w w5 := hF3.out.grown hg5'.out (by have h1 := hF2'.out.below.size; have h2 := hbs.out; simp; omega) (fun j e => by
    rw [← Option.some.inj e]
    refine ⟨hbm'.out, fun o ho hs => ?_⟩
    have hm3 : MapIs ek ep domI (w2.alloc (.cells #[.slice none 0 0, .int .i64 0] 91)) m ([] : List (Int × Nat)) := hm2'.out.move (Below.heap_alloc _ _ _ hm2'.out.lt)
    obtain ⟨es, ck, hb, _⟩ := hm3
    rw [hb] at ho
    cases ho
    cases hs)
  have hq5 := Aside0.mk (R_fr hq'.out hF5 (by simp [Kd.int, Kd.scalar]))
  have hF5' := Aside0.mk hF5
  have hm5 : MapIs ek ep domI w5 m [(x, g)] := hm5'.out
  have hlk5 : (Instr.lookup 77 (.map (some m)) (.int .i64 x) false).run Try.prog w5 = .ok (.pointer (some ⟨g, 0, none⟩)) w5 := by
    have h := hm5.lookup encI Try.underlying77 (P := Try.prog) (z := .pointer none) rfl hx'.out false
    rw [mlook_one] at h
    exact h
  obtain ⟨y0, y1, y2, y3, y4⟩ := dkr_cells hp5
  have z0 : w5.cell? ⟨g, 0, none⟩ = some (.slice none 0 0) := (blk_cell hgg5 0).trans rfl
  have u0 := blk_frozen hgg5 0
  have hp5' := Aside0.mk hp5
  have hgg5' := Aside0.mk hgg5
  clear hp5 hgg5 hm5 hF5 hlk' x0 x1 x2 x3 x4 hnil
  go_upto_region 16 with fail
  obtain ⟨A9, c9, e9, hc9, hC9⟩ := Kd.R_reads hq5.out
  injection e9 with e91 e92 e93
  subst e91 e93
  have hC9' := Aside0.mk hC9
  clear hC9 hc9 e92
  go_wp2_with (first
    | ((with_reducible refine gate_builtin (b := .append) (xs := #[.tmp 67, .tmp 68]) rfl ?_); at_builtin
       refine Kd.R_append_row (Value.int .u8) 0 (w0 := w5) w5.heap.size rfl (.tmp 67) (.tmp 68) 30 5 (.int .u8 0) 1 rfl Try.underlying30 info5 rfl (by decide) (.slice none 0 0) [] L A L.length cp (fun _ => True) rfl rfl (fun _ _ => trivial) (Kd.R_nil _ _ _ _ _) hC9'.out (Below.refl _ _) (by simp) (by have := hL2'.out; simp; omega) ?_
       intro v6 w6 hR6 hB6 hg6 hat6
       rw [List.nil_append] at hR6
       obtain ⟨A6, c6, e6, hc6, hC6⟩ := Kd.R_reads hR6
       subst e6
       have hB6' := Aside0.mk hB6
       have z6 : w6.cell? ⟨g, 0, none⟩ = some (.slice none 0 0) := (blk_cell (blk_below hgg5'.out hB6) 0).trans rfl
       have u6 := blk_frozen (blk_below hgg5'.out hB6) 0
       clear hg6 hat6 hR6 hB6 hc6 hC6)
    | fail)
  go_ret
  have hg6 := blk_below hgg5'.out hB6'.out
  refine ⟨rfl, ?_, g, A6, c6, ?_, ?_, ?_, hwg.out⟩
  · exact (hF5'.out.trans (Fr.of_below (by have h1 := hF5'.out.below.size; have h2 := hbs.out; omega) hB6'.out _ _)).set hg6 (by simp) hbg.out 0 _
  · exact (Below.heap_setCell w6 ⟨g, 0, none⟩ _ p (fun e => hgp.out e.symm)).trans (blk_below hp5'.out hB6'.out)
  · exact (hm5'.out.move (hB6'.out.block m hm5'.out.lt)).move (Below.heap_setCell w6 ⟨g, 0, none⟩ _ m (fun e => hgm.out e.symm))
  · exact blk_put hg6 0 _ rfl
set_option maxHeartbeats 2000000 in
set_option maxRecDepth 100000 in
theorem find_one (p m g : Nat) (r lf x : Int) (w : World) (hp : w.heap[p]? = some (.cells (dkr m r lf) 79 (0, 0))) (hm : MapIs ek ep domI w m [(x, g)]) (hx : domI x) : Calls Try.prog 49 #[ep p, .int .i64 x] w fun e w' => e = .returned (.tuple #[ep g, .int .i64 0]) ∧ w' = w := by
  obtain ⟨c0, c1, c2, c3, c4⟩ := dkr_cells hp
  have hlk5 : (Instr.lookup 77 (.map (some m)) (.int .i64 x) false).run Try.prog w = .ok (.pointer (some ⟨g, 0, none⟩)) w := by
    have h := hm.lookup encI Try.underlying77 (P := Try.prog) (z := .pointer none) rfl hx false
    rw [mlook_one] at h
    exact h
  clear hp hm
  unfold ep
  go_enter Try.func49, Try.ntmps49
  go_wp2
  refine bodyPost_ret (v := .tuple #[.pointer (some ⟨g, 0, none⟩), .int .i64 0]) (by simp [results, Try.results49, go_sem]) rfl ?_
  exact ⟨rfl, rfl⟩
set_option maxHeartbeats 2000000 in
set_option maxRecDepth 100000 in
theorem Sync_one (p m g n c : Nat) (A : Option Addr) (s r lf x : Int) (w : World) (hp : w.heap[p]? = some (.cells (dkr m r lf) 79 (0, 0))) (hm : MapIs ek ep domI w m [(x, g)]) (hx : domI x) (hg : w.heap[g]? = some (.cells #[.slice A n c, .int .i64 s] 91 (0, 0))) : Calls Try.prog 24 #[ep p, .int .i64 x] w fun e w' => e = .returned (.int .i64 0) ∧ w' = (w.setCell ⟨p, 2, none⟩ (.int .i64 (less lf))).setCell ⟨g, 1, none⟩ (.int .i64 n) := by
  have hf := find_one p m g r lf x w hp hm hx
  have hb := burn_r p m r lf w hp
  have hpg : g ≠ p := fun e => by subst e; rw [hp] at hg; cases hg
  have hg2 : (w.setCell ⟨p, 2, none⟩ (.int .i64 (less lf))).heap[g]? = some (.cells #[.slice A n c, .int .i64 s] 91 (0, 0)) := (Below.heap_setCell w ⟨p, 2, none⟩ _ g hpg).trans hg
  obtain ⟨W2, hW2⟩ : ∃ W2, w.setCell ⟨p, 2, none⟩ (.int .i64 (less lf)) = W2 := ⟨_, rfl⟩
  rw [hW2] at hg2 hb ⊢
  have g0 : W2.cell? ⟨g, 0, none⟩ = some (.slice A n c) := (blk_cell hg2 0).trans rfl
  have g1 : W2.cell? ⟨g, 1, none⟩ = some (.int .i64 s) := (blk_cell hg2 1).trans rfl
  have f1 := blk_frozen hg2 1
  clear hp hm hg hg2 hW2
  unfold ep at hf hb ⊢
  go_enter Try.func24, Try.ntmps24
  go_wp2_with (first
    | (go_at_call 49; (with_reducible refine hf.mono ?_); rintro e w2 ⟨rfl, rfl⟩)
    | (go_at_call 51; (with_reducible refine hb.mono ?_); rintro e w2 ⟨rfl, rfl⟩)
    | fail)
  go_ret
  exact ⟨rfl, rfl⟩
end Go.Proofs.Ytnplnelhodnonaa.Dsk
