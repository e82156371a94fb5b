/- The journal: the first record, joined; how many there are. -/
import Derived.Test.YtnplnelhodnonaaJrn3
import Derived.Test.YtnplnelhodnonaaTill
import Derived.StillTailTactics
namespace Go.Proofs.Ytnplnelhodnonaa.Dsk
open Go.RowKit Go.Proofs.YtnplnelhodnonaaW.PrintWords Go.Proofs.YtnplnelhodnonaaW.PrintLast Go.Proofs.YtnplnelhodnonaaW.PrintMore Go.Proofs.Ytnplnelhodnonaa.PJournalNil
open Amap Frm
set_option linter.unusedVariables false
set_option linter.unusedSimpArgs false
theorem sealed_a : journal_sealed.f 100 0 [97] = some [0, 2, 61, 77, 0, 97, 124, 135] := by decide +kernel
theorem wrong_a : journal_wrong.f [97] = some 0 := by decide +kernel
theorem one_byte {W : World} {g : Nat} {n : Int} {z : Nat × Nat} (h : W.heap[g]? = some (.cells #[.int .u8 n] 5 z)) : Kd.C (Kd.int .u8) W (some ⟨g, 0, none⟩) 1 [n] := by
  refine ⟨rfl, by decide, fun _ => ⟨_, rfl, fun j p hj => ?_⟩⟩
  cases j with
  | zero =>
    simp at hj
    subst hj
    refine ⟨[.int .u8 n], rfl, rfl, fun i u hu => ?_⟩
    cases i with
    | zero =>
      simp at hu
      subst hu
      simp [World.cell?, h, Addr.add]
    | succ i => simp at hu
  | succ j => simp at hj
theorem one_V {W : World} {g c : Nat} {n : Int} {z : Nat × Nat} (h : W.heap[g]? = some (.cells #[.int .u8 n] 5 z)) (hc : 1 ≤ c) : Kd.V (Kd.int .u8) 5 W W.heap.size (fun k => k = g) (.slice (some ⟨g, 0, none⟩) 1 c) [n] :=
  Kd.V_mk (xs := [n]) hc (fun w1 hw => one_byte ((hw g rfl (blk_lt h)).trans h))
theorem one_int {W : World} {g : Nat} {n : Int} {z : Nat × Nat} (h : W.heap[g]? = some (.cells #[.int .i64 n] 3 z)) : ReadsRow (fun q cs => cs = [Value.int .i64 q]) 1 W (some ⟨g, 0, none⟩) 1 [n] := by
  refine ⟨rfl, by decide, fun _ => ⟨_, rfl, fun j p hj => ?_⟩⟩
  cases j with
  | zero =>
    simp at hj
    subst hj
    refine ⟨[.int .i64 n], rfl, rfl, fun i u hu => ?_⟩
    cases i with
    | zero =>
      simp at hu
      subst hu
      simp [World.cell?, h, Addr.add]
    | succ i => simp at hu
  | succ j => simp at hj
theorem gen_world {K : Act → World → Prop} {a : Act} {w : World} (h : ∀ X, X = w → K a X) : K a w := h w rfl
theorem grown_below {W w1 : World} {v : Value} (h : W.grownBy w1 v.ownBlock) (e : v.ownBlock = none) : Below W.heap.size W w1 := (Below.refl _ _).grown h (Nat.le_refl _) (fun g hg => by rw [e] at hg; cases hg)
theorem info3 : (Try.prog.info? 3).map (fun i => (i.zero, i.size, i.bytes)) = some (some (.int .i64 0), 1, 8) := by kernel_rfl
set_option maxHeartbeats 2000000 in
set_option maxRecDepth 100000 in
theorem next_0 (jb p : Nat) (b : Value) (s : Int) (w : World) (hj : w.heap[jb]? = some (.cells (jc p (.slice none 0 0) b s) 99 (0, 0))) : Calls Try.prog 55 #[ep jb] w fun e w' => e = .returned (.int .i64 0) ∧ w' = w := by
  obtain ⟨c0, c1, c2, c3, c4, c5⟩ := jc_cells hj
  clear hj
  unfold ep at c0 ⊢
  go_enter Try.func55, Try.ntmps55
  go_wp2
  go_ret
  exact ⟨rfl, rfl⟩
set_option maxHeartbeats 8000000 in
set_option maxRecDepth 100000 in
theorem jAppend_first (jb p m q cp : Nat) (z : Nat × Nat) (lf : Int) (base : Nat) (w : World) (hj : w.heap[jb]? = some (.cells (jc p (.slice none 0 0) (.slice none 0 0) 0) 99 (0, 0))) (hp : w.heap[p]? = some (.cells (dkr m 1000 lf) 79 (0, 0))) (hm : MapIs ek ep domI w m []) (hq : w.heap[q]? = some (.cells #[.int .u8 97] 5 z)) (hcp : 1 ≤ cp) (hbp : base ≤ p) (hbm : base ≤ m) (hbj : base ≤ jb) (hpm : p ≠ m) :
    Calls Try.prog 30 #[ep jb, .slice (some ⟨q, 0, none⟩) 1 cp] w fun e w' => e = .returned (.int .i64 0) ∧ (∃ a s g c, w'.heap[jb]? = some (.cells (jc p a (.slice (some ⟨g, 0, none⟩) 1 c) s) 99 (0, 0)) ∧ w'.cell? ⟨g, 0, none⟩ = some (.int .i64 1)) ∧ Below base w w' := by
  have hw : Aside0 (Calls Try.prog 54 #[.slice (some ⟨q, 0, none⟩) 1 cp] w fun e w' => e = .returned (.int .i64 0) ∧ Drawn0 w w') := Aside0.mk (journal_wrong.calls (some ⟨q, 0, none⟩) cp [97] 0 w (one_byte hq) hcp wrong_a)
  obtain ⟨c0, c1, c2, c3, c4, c5⟩ := jc_cells hj
  have hj' := Aside0.mk hj
  have hp' := Aside0.mk hp
  have hm' := Aside0.mk hm
  have hq' := Aside0.mk hq
  have hcp' := Aside0.mk hcp
  have hbp' := Aside0.mk hbp
  have hbm' := Aside0.mk hbm
  have hbj' := Aside0.mk hbj
  have hpm' := Aside0.mk hpm
  have hbs := Aside0.mk (show base ≤ w.heap.size by have := blk_lt hp; omega)
  clear hj hp hm hq hcp hbp hbm hpm hbj
  unfold ep at c0 ⊢
  go_enter Try.func30, Try.ntmps30
  go_upto_region 5 with fail
  go_upto_region 8 with (first
    | (go_at_call 54; (with_reducible refine hw.out.mono ?_); rintro e w1 ⟨rfl, hd1⟩; have hd1' := Aside0.mk hd1.below; clear hd1)
    | fail)
  have hj1 := blk_below hj'.out hd1'.out
  have hp1 := Aside0.mk (blk_below hp'.out hd1'.out)
  have hq1 := Aside0.mk (blk_below hq'.out hd1'.out)
  have hm1 : Aside0 (MapIs ek ep domI w1 m ([] : List (Int × Nat))) := ⟨hm'.out.move (hd1'.out.block m hm'.out.lt)⟩
  obtain ⟨d0, d1, d2, d3, d4, d5⟩ := jc_cells hj1
  have hn := Aside0.mk (next_0 jb p _ _ w1 hj1)
  have hse := Aside0.mk (journal_sealed.calls 100 0 (fun k => k = q) (some ⟨q, 0, none⟩) cp [97] [0, 2, 61, 77, 0, 97, 124, 135] w1 (one_V hq1.out hcp'.out) sealed_a)
  have hse' : Aside0 (Calls Try.prog 56 #[.int .u8 0, .slice (some ⟨q, 0, none⟩) 1 cp] w1 fun e w' => ∃ v0_ : Value, e = .returned (v0_) ∧ Kd.R (Kd.int .u8) 5 w' w1.heap.size (fun k_ => (w1.heap.size ≤ k_)) v0_ [0, 2, 61, 77, 0, 97, 124, 135] ∧ Below w1.heap.size w1 w') := hse
  have hj1' := Aside0.mk hj1
  unfold ep at d0 hn
  clear hj1 hse c0 c1 c2 c3 c4 c5
  go_upto_region 14 with (first
    | (go_at_call 55; (with_reducible refine hn.out.mono ?_); rintro e w2 ⟨rfl, hw2⟩; subst w2)
    | fail)
  go_upto_region 15 with (first
    | (go_at_call 56; (with_reducible refine hse'.out.mono ?_); rintro e w2 ⟨v2, rfl, hR2, hb2⟩; obtain ⟨A2, c2, e2⟩ := Kd.R_slice hR2; subst e2; have hR2' := Aside0.mk hR2; have hb2' := Aside0.mk hb2; clear hR2 hb2)
    | fail)
  have hP : Aside0 (Calls Try.prog 57 #[ep jb, .int .i64 0, .slice A2 8 c2] w2 fun e w' => e = .returned (.int .i64 0) ∧ w'.heap[jb]? = some (.cells (jc p (.slice none 0 0) (.slice none 0 0) 0) 99 (0, 0)) ∧ Below base w2 w') := Aside0.mk (put_first jb p m _ _ 0 1000 lf 0 [0, 2, 61, 77, 0, 97, 124, 135] A2 c2 w1.heap.size base _ w2 (blk_below hj1'.out hb2'.out) (blk_below hp1.out hb2'.out) (hm1.out.move (hb2'.out.block m hm1.out.lt)) hR2'.out (by decide) (by unfold domI; decide) (by decide) (by decide) hbp'.out hbm'.out hbj'.out hpm'.out)
  unfold ep at hP
  clear d0 d1 d2 d3 d4 d5
  go_upto_region 16 with (first
    | (go_at_call 57; (with_reducible refine hP.out.mono ?_); rintro e w3 ⟨rfl, hj3, hb3⟩; have hj3' := Aside0.mk hj3; have hb3' := Aside0.mk hb3; clear hb3)
    | fail)
  obtain ⟨x0, x1, x2, x3, x4, x5⟩ := jc_cells hj3
  have x0' := x0
  unfold ep at x0'
  clear x0 hj3
  go_upto_region 19 with fail
  refine wp_world fun W hW => ?_
  have hjW := Aside0.mk (show W.heap[jb]? = some (.cells (jc p (.slice none 0 0) (.slice none 0 0) 0) 99 (0, 0)) by rw [hW]; exact hj3'.out)
  have hBW := Aside0.mk (show Below w3.heap.size w3 W by rw [hW]; first | exact Below.refl _ _ | exact below_drew (Below.refl _ _))
  have hb3s : Aside0 (base ≤ w3.heap.size) := ⟨by have h1 := hbs.out; have h2 := hd1'.out.size; have h3 := hb2'.out.size; have h4 := hb3'.out.size; omega⟩
  clear hW x1 x2 x3 x4 x5 x0'
  go_cut [] (fun wx => ∃ v4 g c5, Aside0 (wx.heap[jb]? = some (.cells (jc p v4 (.slice (some ⟨g, 0, none⟩) 1 c5) 0) 99 (0, 0))) ∧ Aside0 (Kd.R (Kd.int .i64) 3 wx w3.heap.size (fun _ => True) (.slice (some ⟨g, 0, none⟩) 1 c5) [0]) ∧ Aside0 (Below base w3 wx))
  case first =>
    obtain ⟨x0, x1, x2, x3, x4, x5⟩ := jc_cells hjW.out
    have hHeld : W.drew.cell? ⟨jb, 1, none⟩ = some (.slice none 0 0) ∧ W.drew.cell? ⟨jb, 2, none⟩ = some (.slice none 0 0) := ⟨x1, x2⟩
    clear x0 x1 x2 x3 x4 x5
    refine Till.start 17 (fun w' => w'.cell? ⟨jb, 1, none⟩ = some (.slice none 0 0) ∧ w'.cell? ⟨jb, 2, none⟩ = some (.slice none 0 0)) (by kernel_rfl) ?_
    refine Till.pure_take (i := 0) (v := ?_) rfl (by kernel_rfl) (by kernel_rfl) (by kernel_rfl) (by decide) (fun _ _ _ h => h) (Or.inl ⟨by rfl, ?_⟩) (by first | exact fun _ => hHeld | exact fun h => absurd h (by decide)) ?_
    rotate_left
    · (intro w' _; go_simp; (try with_reducible rfl))
    simp only [Act.put, List.setIfInBounds_toArray, List.set_cons_zero, List.set_cons_succ]
    refine Till.pure_take (i := 1) (v := ?_) rfl (by kernel_rfl) (by kernel_rfl) (by kernel_rfl) (by decide) (fun _ _ _ h => h) (Or.inl ⟨by rfl, ?_⟩) (by first | exact fun _ => hHeld | exact fun h => absurd h (by decide)) ?_
    rotate_left
    · (intro w' _; go_simp; (try with_reducible rfl))
    simp only [Act.put, List.setIfInBounds_toArray, List.set_cons_zero, List.set_cons_succ]
    refine Till.pure_take (i := 2) (v := ?_) rfl (by kernel_rfl) (by kernel_rfl) (by kernel_rfl) (by decide) (fun _ _ _ h => h) (Or.inl ⟨by rfl, ?_⟩) (by first | exact fun _ => hHeld | exact fun h => absurd h (by decide)) ?_
    rotate_left
    · (intro w' _; go_simp; (try with_reducible rfl))
    simp only [Act.put, List.setIfInBounds_toArray, List.set_cons_zero, List.set_cons_succ]
    refine Till.pure_take (i := 3) (v := ?_) rfl (by kernel_rfl) (by kernel_rfl) (by kernel_rfl) (by decide) (fun _ _ _ h => h) (Or.inl ⟨by rfl, ?_⟩) (by first | exact fun _ => hHeld | exact fun h => absurd h (by decide)) ?_
    rotate_left
    · (intro w' _; go_simp; (try with_reducible rfl))
    simp only [Act.put, List.setIfInBounds_toArray, List.set_cons_zero, List.set_cons_succ]
    refine Till.pure_take (i := 4) (v := ?_) rfl (by kernel_rfl) (by kernel_rfl) (by kernel_rfl) (by decide) (fun _ _ _ h => h) (Or.inl ⟨by rfl, ?_⟩) (by first | exact fun _ => hHeld | exact fun h => absurd h (by decide)) ?_
    rotate_left
    · (intro w' _; go_simp; (try with_reducible rfl))
    simp only [Act.put, List.setIfInBounds_toArray, List.set_cons_zero, List.set_cons_succ]
    refine Till.load_take 8 (i := 5) (v := ?_) rfl (by kernel_rfl) (by kernel_rfl) (by kernel_rfl) (by decide) (by kernel_rfl) (by kernel_rfl) (by kernel_rfl) (by kernel_rfl) (fun _ _ _ h => h) (Or.inl ⟨by rfl, ?_⟩) hHeld ?_
    rotate_left
    · (intro w' hSw; (try dsimp only at hSw); go_simp; (try with_reducible rfl))
    simp only [Act.put, List.setIfInBounds_toArray, List.set_cons_zero, List.set_cons_succ]
    refine Till.pure_take (i := 6) (v := ?_) rfl (by kernel_rfl) (by kernel_rfl) (by kernel_rfl) (by decide) (fun _ _ _ h => h) (Or.inl ⟨by rfl, ?_⟩) (by first | exact fun _ => hHeld | exact fun h => absurd h (by decide)) ?_
    rotate_left
    · (intro w' _; go_simp; (try with_reducible rfl))
    simp only [Act.put, List.setIfInBounds_toArray, List.set_cons_zero, List.set_cons_succ]
    refine Till.pure_take (i := 9) (v := ?_) rfl (by kernel_rfl) (by kernel_rfl) (by kernel_rfl) (by decide) (fun _ _ _ h => h) (Or.inl ⟨by rfl, ?_⟩) (by first | exact fun _ => hHeld | exact fun h => absurd h (by decide)) ?_
    rotate_left
    · (intro w' _; go_simp; (try with_reducible rfl))
    simp only [Act.put, List.setIfInBounds_toArray, List.set_cons_zero, List.set_cons_succ]
    refine Till.pure_take (i := 10) (v := ?_) rfl (by kernel_rfl) (by kernel_rfl) (by kernel_rfl) (by decide) (fun _ _ _ h => h) (Or.inl ⟨by rfl, ?_⟩) (by first | exact fun _ => hHeld | exact fun h => absurd h (by decide)) ?_
    rotate_left
    · (intro w' _; go_simp; (try with_reducible rfl))
    simp only [Act.put, List.setIfInBounds_toArray, List.set_cons_zero, List.set_cons_succ]
    refine Till.pure_take (i := 11) (v := ?_) rfl (by kernel_rfl) (by kernel_rfl) (by kernel_rfl) (by decide) (fun _ _ _ h => h) (Or.inl ⟨by rfl, ?_⟩) (by first | exact fun _ => hHeld | exact fun h => absurd h (by decide)) ?_
    rotate_left
    · (intro w' _; go_simp; (try with_reducible rfl))
    simp only [Act.put, List.setIfInBounds_toArray, List.set_cons_zero, List.set_cons_succ]
    refine Till.load_take 14 (i := 12) (v := ?_) rfl (by kernel_rfl) (by kernel_rfl) (by kernel_rfl) (by decide) (by kernel_rfl) (by kernel_rfl) (by kernel_rfl) (by kernel_rfl) (fun _ _ _ h => h) (Or.inl ⟨by rfl, ?_⟩) hHeld ?_
    rotate_left
    · (intro w' hSw; (try dsimp only at hSw); go_simp; (try with_reducible rfl))
    simp only [Act.put, List.setIfInBounds_toArray, List.set_cons_zero, List.set_cons_succ]
    refine Till.all (rs := [7, 13]) (by kernel_rfl) (by simp) ?_
    refine Till.Step.cons rfl (fun K hK => ?_) (Till.Step.cons rfl (fun K hK => ?_) (Till.Step.nil))
    · skip
      -- 7
      go_simp
      refine gen_world (fun X1 hX1 => ?_)
      have hjX1 := Aside0.mk (show X1.heap[jb]? = some (.cells (jc p (.slice none 0 0) (.slice none 0 0) 0) 99 (0, 0)) by rw [hX1]; exact blk_alloc hjW.out _)
      have hn7 := Aside0.mk (show X1.heap[W.heap.size]? = some (.cells #[.int .i64 0] 3 (0, 0)) by rw [hX1]; exact blk_new W _)
      have hBX1 := Aside0.mk (show Below w3.heap.size w3 X1 by rw [hX1]; first | exact below_alloc hBW.out _ | exact below_drew (below_alloc hBW.out _))
      have hLX1 := Aside0.mk (show Below W.heap.size W X1 by rw [hX1]; first | exact below_alloc (Below.refl _ _) _ | exact below_drew (below_alloc (Below.refl _ _) _))
      clear hX1
      obtain ⟨x0, x1, x2, x3, x4, x5⟩ := jc_cells hjX1.out
      have hHeld : X1.cell? ⟨jb, 1, none⟩ = some (.slice none 0 0) ∧ X1.cell? ⟨jb, 2, none⟩ = some (.slice none 0 0) := ⟨x1, x2⟩
      clear x0 x1 x2 x3 x4 x5
      refine hK.out _ _ (fun _ => hHeld) ?_
      clear hK K
      refine Till.all (rs := [8, 13]) (by kernel_rfl) (by simp) ?_
      refine Till.Step.cons rfl (fun K hK => ?_) (Till.Step.cons rfl (fun K hK => ?_) (Till.Step.nil))
      · skip
        -- 8
        refine Kd.R_append_rows_step (Kd.int .i64) (Rr := fun q cs => cs = [Value.int .i64 q]) (w0 := w3) w3.heap.size (by rfl) (.tmp 76) (.tmp 78) 31 3 (.int .i64 0) 8 (by rfl) Try.underlying31 info3 rfl (by decide) (by decide) (.slice none 0 0) [] [0] (some ⟨W.heap.size, 0, none⟩) 1 1 (fun _ => True) (fun _ => False) (by rfl) (by rfl) (Kd.R_nil _ _ _ _ _) (one_int hn7.out) (fun _ _ h => h) (fun _ h => h.elim) (fun _ _ => trivial) hBX1.out hBX1.out.size (by decide) ?_
        intro v8 X2 hR8 hb8 hg8 hat8
        rw [List.nil_append] at hR8
        obtain ⟨A8, c8, e8⟩ := Kd.R_slice hR8
        subst e8
        have hLX2 := Aside0.mk (grown_below hg8 rfl)
        have hjX2 := Aside0.mk (blk_below hjX1.out hLX2.out)
        have hBX2 := Aside0.mk hb8
        have hR8' := Aside0.mk hR8
        replace hn7 := Aside0.mk (blk_below hn7.out hLX2.out)
        clear hR8 hb8 hg8 hat8
        obtain ⟨x0, x1, x2, x3, x4, x5⟩ := jc_cells hjX2.out
        have hHeld : X2.cell? ⟨jb, 1, none⟩ = some (.slice none 0 0) ∧ X2.cell? ⟨jb, 2, none⟩ = some (.slice none 0 0) := ⟨x1, x2⟩
        clear x0 x1 x2 x3 x4 x5
        refine hK.out _ _ (fun _ => hHeld) ?_
        clear hK K
        refine Till.all (rs := [13]) (by kernel_rfl) (by simp) ?_
        refine Till.Step.cons rfl (fun K hK => ?_) (Till.Step.nil)
        -- 13
        go_simp
        refine gen_world (fun X3 hX3 => ?_)
        have hjX3 := Aside0.mk (show X3.heap[jb]? = some (.cells (jc p (.slice none 0 0) (.slice none 0 0) 0) 99 (0, 0)) by rw [hX3]; exact blk_alloc hjX2.out _)
        have hn13 := Aside0.mk (show X3.heap[X2.heap.size]? = some (.cells #[.int .i64 0] 3 (0, 0)) by rw [hX3]; exact blk_new X2 _)
        have hBX3 := Aside0.mk (show Below w3.heap.size w3 X3 by rw [hX3]; first | exact below_alloc hBX2.out _ | exact below_drew (below_alloc hBX2.out _))
        have hLX3 := Aside0.mk (show Below X2.heap.size X2 X3 by rw [hX3]; first | exact below_alloc (Below.refl _ _) _ | exact below_drew (below_alloc (Below.refl _ _) _))
        replace hn7 := Aside0.mk (blk_below hn7.out hLX3.out)
        clear hX3
        obtain ⟨x0, x1, x2, x3, x4, x5⟩ := jc_cells hjX3.out
        have hHeld : X3.cell? ⟨jb, 1, none⟩ = some (.slice none 0 0) ∧ X3.cell? ⟨jb, 2, none⟩ = some (.slice none 0 0) := ⟨x1, x2⟩
        clear x0 x1 x2 x3 x4 x5
        refine hK.out _ _ (fun _ => hHeld) ?_
        clear hK K
        refine Till.all (rs := [14]) (by kernel_rfl) (by simp) ?_
        refine Till.Step.cons rfl (fun K hK => ?_) (Till.Step.nil)
        -- 14
        refine Kd.R_append_rows_step (Kd.int .i64) (Rr := fun q cs => cs = [Value.int .i64 q]) (w0 := w3) w3.heap.size (by rfl) (.tmp 83) (.tmp 84) 31 3 (.int .i64 0) 8 (by rfl) Try.underlying31 info3 rfl (by decide) (by decide) (.slice none 0 0) [] [0] (some ⟨X2.heap.size, 0, none⟩) 1 1 (fun _ => True) (fun _ => False) (by rfl) (by rfl) (Kd.R_nil _ _ _ _ _) (one_int hn13.out) (fun _ _ h => h) (fun _ h => h.elim) (fun _ _ => trivial) hBX3.out hBX3.out.size (by decide) ?_
        intro v14 X4 hR14 hb14 hg14 hat14
        rw [List.nil_append] at hR14
        have hLX4 := Aside0.mk (grown_below hg14 rfl)
        have hjX4 := Aside0.mk (blk_below hjX3.out hLX4.out)
        have hBX4 := Aside0.mk hb14
        have hR14' := Aside0.mk hR14
        replace hn7 := Aside0.mk (blk_below hn7.out hLX4.out)
        replace hn13 := Aside0.mk (blk_below hn13.out hLX4.out)
        clear hR14 hb14 hg14 hat14
        obtain ⟨x0, x1, x2, x3, x4, x5⟩ := jc_cells hjX4.out
        have hHeld : X4.cell? ⟨jb, 1, none⟩ = some (.slice none 0 0) ∧ X4.cell? ⟨jb, 2, none⟩ = some (.slice none 0 0) := ⟨x1, x2⟩
        clear x0 x1 x2 x3 x4 x5
        refine hK.out _ _ (fun _ => hHeld) ?_
        clear hK K
        obtain ⟨g, c5, e5, hgb, hgl, hgc⟩ := Kd.R_form hR14'.out (by decide)
        subst e5
        clear hgb hgl hgc
        obtain ⟨x0, x1, x2, x3, x4, x5⟩ := jc_cells hjX4.out
        have f1 := blk_frozen hjX4.out 1
        clear x0 x3 x4 x5
        refine Till.pure_take (i := 15) (v := ?_) rfl (by kernel_rfl) (by kernel_rfl) (by kernel_rfl) (by decide) (fun _ _ _ h => h) (Or.inl ⟨by rfl, ?_⟩) (by first | exact fun _ => hHeld | exact fun h => absurd h (by decide)) ?_
        rotate_left
        · (intro w' _; go_simp; (try with_reducible rfl))
        simp only [Act.put, List.setIfInBounds_toArray, List.set_cons_zero, List.set_cons_succ]
        refine Till.pure_take (i := 16) (v := ?_) rfl (by kernel_rfl) (by kernel_rfl) (by kernel_rfl) (by decide) (fun _ _ _ h => h) (Or.inl ⟨by rfl, ?_⟩) (by first | exact fun _ => hHeld | exact fun h => absurd h (by decide)) ?_
        rotate_left
        · (intro w' _; go_simp; (try with_reducible rfl))
        simp only [Act.put, List.setIfInBounds_toArray, List.set_cons_zero, List.set_cons_succ]
        refine Till.all (rs := [17]) (by kernel_rfl) (by simp) ?_
        refine Till.Step.cons rfl (fun K hK => ?_) Till.Step.nil
        go_simp
        refine gen_world (fun Y1 hY1 => ?_)
        have hjY1 := Aside0.mk (show Y1.heap[jb]? = some (.cells (jc p (.slice A8 1 c8) (.slice none 0 0) 0) 99 (0, 0)) by rw [hY1]; exact blk_put hjX4.out 1 _ rfl)
        have hRY1 := Aside0.mk (show Kd.R (Kd.int .i64) 3 Y1 w3.heap.size (fun _ => True) (.slice (some ⟨g, 0, none⟩) 1 c5) [0] by rw [hY1]; exact Kd.R_set hR14'.out hjX4.out (by simp [Kd.int, Kd.scalar]) 1 _)
        have hBY1 := Aside0.mk (show Below base w3 Y1 by rw [hY1]; exact (hBX4.out.mono hb3s.out).setCell hbj'.out _)
        refine hK.out _ _ (fun h => absurd h (by decide)) ?_
        clear hK K hY1 hHeld x1 x2 f1
        refine Till.pure_take (i := 18) (v := ?_) rfl (by kernel_rfl) (by kernel_rfl) (by kernel_rfl) (by decide) (fun _ _ _ h => h) (Or.inl ⟨by rfl, ?_⟩) (by first | exact fun _ => hHeld | exact fun h => absurd h (by decide)) ?_
        rotate_left
        · (intro w' _; go_simp; (try with_reducible rfl))
        simp only [Act.put, List.setIfInBounds_toArray, List.set_cons_zero, List.set_cons_succ]
        refine Till.pure_take (i := 19) (v := ?_) rfl (by kernel_rfl) (by kernel_rfl) (by kernel_rfl) (by decide) (fun _ _ _ h => h) (Or.inl ⟨by rfl, ?_⟩) (by first | exact fun _ => hHeld | exact fun h => absurd h (by decide)) ?_
        rotate_left
        · (intro w' _; go_simp; (try with_reducible rfl))
        simp only [Act.put, List.setIfInBounds_toArray, List.set_cons_zero, List.set_cons_succ]
        refine Till.all (rs := [20]) (by kernel_rfl) (by simp) ?_
        refine Till.Step.cons rfl (fun K hK => ?_) Till.Step.nil
        obtain ⟨x0, x1, x2, x3, x4, x5⟩ := jc_cells hjY1.out
        have f2 := blk_frozen hjY1.out 2
        clear x0 x1 x3 x4 x5
        go_simp
        refine gen_world (fun Y2 hY2 => ?_)
        have hjY2 := Aside0.mk (show Y2.heap[jb]? = some (.cells (jc p (.slice A8 1 c8) (.slice (some ⟨g, 0, none⟩) 1 c5) 0) 99 (0, 0)) by rw [hY2]; exact blk_put hjY1.out 2 _ rfl)
        have hRY2 := Aside0.mk (show Kd.R (Kd.int .i64) 3 Y2 w3.heap.size (fun _ => True) (.slice (some ⟨g, 0, none⟩) 1 c5) [0] by rw [hY2]; exact Kd.R_set hRY1.out hjY1.out (by simp [Kd.int, Kd.scalar]) 2 _)
        have hBY2 := Aside0.mk (show Below base w3 Y2 by rw [hY2]; exact hBY1.out.setCell hbj'.out _)
        refine hK.out _ _ (fun h => absurd h (by decide)) ?_
        clear hK K hY2 x2 f2
        refine Till.done (by kernel_rfl) ?_ _
        obtain ⟨y0, y1, y2, y3, y4, y5⟩ := jc_cells hjY2.out
        have f3 := blk_frozen hjY2.out 3
        have f4 := blk_frozen hjY2.out 4
        go_wp2_with fail
        go_meet
        exact ⟨_, _, _, hjY2, hRY2, hBY2⟩
      · skip
        -- 13
        go_simp
        refine gen_world (fun X2 hX2 => ?_)
        have hjX2 := Aside0.mk (show X2.heap[jb]? = some (.cells (jc p (.slice none 0 0) (.slice none 0 0) 0) 99 (0, 0)) by rw [hX2]; exact blk_alloc hjX1.out _)
        have hn13 := Aside0.mk (show X2.heap[X1.heap.size]? = some (.cells #[.int .i64 0] 3 (0, 0)) by rw [hX2]; exact blk_new X1 _)
        have hBX2 := Aside0.mk (show Below w3.heap.size w3 X2 by rw [hX2]; first | exact below_alloc hBX1.out _ | exact below_drew (below_alloc hBX1.out _))
        have hLX2 := Aside0.mk (show Below X1.heap.size X1 X2 by rw [hX2]; first | exact below_alloc (Below.refl _ _) _ | exact below_drew (below_alloc (Below.refl _ _) _))
        replace hn7 := Aside0.mk (blk_below hn7.out hLX2.out)
        clear hX2
        obtain ⟨x0, x1, x2, x3, x4, x5⟩ := jc_cells hjX2.out
        have hHeld : X2.cell? ⟨jb, 1, none⟩ = some (.slice none 0 0) ∧ X2.cell? ⟨jb, 2, none⟩ = some (.slice none 0 0) := ⟨x1, x2⟩
        clear x0 x1 x2 x3 x4 x5
        refine hK.out _ _ (fun _ => hHeld) ?_
        clear hK K
        refine Till.all (rs := [8]) (by kernel_rfl) (by simp) ?_
        refine Till.Step.cons rfl (fun K hK => ?_) (Till.Step.nil)
        -- 8
        refine Kd.R_append_rows_step (Kd.int .i64) (Rr := fun q cs => cs = [Value.int .i64 q]) (w0 := w3) w3.heap.size (by rfl) (.tmp 76) (.tmp 78) 31 3 (.int .i64 0) 8 (by rfl) Try.underlying31 info3 rfl (by decide) (by decide) (.slice none 0 0) [] [0] (some ⟨W.heap.size, 0, none⟩) 1 1 (fun _ => True) (fun _ => False) (by rfl) (by rfl) (Kd.R_nil _ _ _ _ _) (one_int hn7.out) (fun _ _ h => h) (fun _ h => h.elim) (fun _ _ => trivial) hBX2.out hBX2.out.size (by decide) ?_
        intro v8 X3 hR8 hb8 hg8 hat8
        rw [List.nil_append] at hR8
        obtain ⟨A8, c8, e8⟩ := Kd.R_slice hR8
        subst e8
        have hLX3 := Aside0.mk (grown_below hg8 rfl)
        have hjX3 := Aside0.mk (blk_below hjX2.out hLX3.out)
        have hBX3 := Aside0.mk hb8
        have hR8' := Aside0.mk hR8
        replace hn7 := Aside0.mk (blk_below hn7.out hLX3.out)
        replace hn13 := Aside0.mk (blk_below hn13.out hLX3.out)
        clear hR8 hb8 hg8 hat8
        obtain ⟨x0, x1, x2, x3, x4, x5⟩ := jc_cells hjX3.out
        have hHeld : X3.cell? ⟨jb, 1, none⟩ = some (.slice none 0 0) ∧ X3.cell? ⟨jb, 2, none⟩ = some (.slice none 0 0) := ⟨x1, x2⟩
        clear x0 x1 x2 x3 x4 x5
        refine hK.out _ _ (fun _ => hHeld) ?_
        clear hK K
        refine Till.all (rs := [14]) (by kernel_rfl) (by simp) ?_
        refine Till.Step.cons rfl (fun K hK => ?_) (Till.Step.nil)
        -- 14
        refine Kd.R_append_rows_step (Kd.int .i64) (Rr := fun q cs => cs = [Value.int .i64 q]) (w0 := w3) w3.heap.size (by rfl) (.tmp 83) (.tmp 84) 31 3 (.int .i64 0) 8 (by rfl) Try.underlying31 info3 rfl (by decide) (by decide) (.slice none 0 0) [] [0] (some ⟨X1.heap.size, 0, none⟩) 1 1 (fun _ => True) (fun _ => False) (by rfl) (by rfl) (Kd.R_nil _ _ _ _ _) (one_int hn13.out) (fun _ _ h => h) (fun _ h => h.elim) (fun _ _ => trivial) hBX3.out hBX3.out.size (by decide) ?_
        intro v14 X4 hR14 hb14 hg14 hat14
        rw [List.nil_append] at hR14
        have hLX4 := Aside0.mk (grown_below hg14 rfl)
        have hjX4 := Aside0.mk (blk_below hjX3.out hLX4.out)
        have hBX4 := Aside0.mk hb14
        have hR14' := Aside0.mk hR14
        replace hn7 := Aside0.mk (blk_below hn7.out hLX4.out)
        replace hn13 := Aside0.mk (blk_below hn13.out hLX4.out)
        clear hR14 hb14 hg14 hat14
        obtain ⟨x0, x1, x2, x3, x4, x5⟩ := jc_cells hjX4.out
        have hHeld : X4.cell? ⟨jb, 1, none⟩ = some (.slice none 0 0) ∧ X4.cell? ⟨jb, 2, none⟩ = some (.slice none 0 0) := ⟨x1, x2⟩
        clear x0 x1 x2 x3 x4 x5
        refine hK.out _ _ (fun _ => hHeld) ?_
        clear hK K
        obtain ⟨g, c5, e5, hgb, hgl, hgc⟩ := Kd.R_form hR14'.out (by decide)
        subst e5
        clear hgb hgl hgc
        obtain ⟨x0, x1, x2, x3, x4, x5⟩ := jc_cells hjX4.out
        have f1 := blk_frozen hjX4.out 1
        clear x0 x3 x4 x5
        refine Till.pure_take (i := 15) (v := ?_) rfl (by kernel_rfl) (by kernel_rfl) (by kernel_rfl) (by decide) (fun _ _ _ h => h) (Or.inl ⟨by rfl, ?_⟩) (by first | exact fun _ => hHeld | exact fun h => absurd h (by decide)) ?_
        rotate_left
        · (intro w' _; go_simp; (try with_reducible rfl))
        simp only [Act.put, List.setIfInBounds_toArray, List.set_cons_zero, List.set_cons_succ]
        refine Till.pure_take (i := 16) (v := ?_) rfl (by kernel_rfl) (by kernel_rfl) (by kernel_rfl) (by decide) (fun _ _ _ h => h) (Or.inl ⟨by rfl, ?_⟩) (by first | exact fun _ => hHeld | exact fun h => absurd h (by decide)) ?_
        rotate_left
        · (intro w' _; go_simp; (try with_reducible rfl))
        simp only [Act.put, List.setIfInBounds_toArray, List.set_cons_zero, List.set_cons_succ]
        refine Till.all (rs := [17]) (by kernel_rfl) (by simp) ?_
        refine Till.Step.cons rfl (fun K hK => ?_) Till.Step.nil
        go_simp
        refine gen_world (fun Y1 hY1 => ?_)
        have hjY1 := Aside0.mk (show Y1.heap[jb]? = some (.cells (jc p (.slice A8 1 c8) (.slice none 0 0) 0) 99 (0, 0)) by rw [hY1]; exact blk_put hjX4.out 1 _ rfl)
        have hRY1 := Aside0.mk (show Kd.R (Kd.int .i64) 3 Y1 w3.heap.size (fun _ => True) (.slice (some ⟨g, 0, none⟩) 1 c5) [0] by rw [hY1]; exact Kd.R_set hR14'.out hjX4.out (by simp [Kd.int, Kd.scalar]) 1 _)
        have hBY1 := Aside0.mk (show Below base w3 Y1 by rw [hY1]; exact (hBX4.out.mono hb3s.out).setCell hbj'.out _)
        refine hK.out _ _ (fun h => absurd h (by decide)) ?_
        clear hK K hY1 hHeld x1 x2 f1
        refine Till.pure_take (i := 18) (v := ?_) rfl (by kernel_rfl) (by kernel_rfl) (by kernel_rfl) (by decide) (fun _ _ _ h => h) (Or.inl ⟨by rfl, ?_⟩) (by first | exact fun _ => hHeld | exact fun h => absurd h (by decide)) ?_
        rotate_left
        · (intro w' _; go_simp; (try with_reducible rfl))
        simp only [Act.put, List.setIfInBounds_toArray, List.set_cons_zero, List.set_cons_succ]
        refine Till.pure_take (i := 19) (v := ?_) rfl (by kernel_rfl) (by kernel_rfl) (by kernel_rfl) (by decide) (fun _ _ _ h => h) (Or.inl ⟨by rfl, ?_⟩) (by first | exact fun _ => hHeld | exact fun h => absurd h (by decide)) ?_
        rotate_left
        · (intro w' _; go_simp; (try with_reducible rfl))
        simp only [Act.put, List.setIfInBounds_toArray, List.set_cons_zero, List.set_cons_succ]
        refine Till.all (rs := [20]) (by kernel_rfl) (by simp) ?_
        refine Till.Step.cons rfl (fun K hK => ?_) Till.Step.nil
        obtain ⟨x0, x1, x2, x3, x4, x5⟩ := jc_cells hjY1.out
        have f2 := blk_frozen hjY1.out 2
        clear x0 x1 x3 x4 x5
        go_simp
        refine gen_world (fun Y2 hY2 => ?_)
        have hjY2 := Aside0.mk (show Y2.heap[jb]? = some (.cells (jc p (.slice A8 1 c8) (.slice (some ⟨g, 0, none⟩) 1 c5) 0) 99 (0, 0)) by rw [hY2]; exact blk_put hjY1.out 2 _ rfl)
        have hRY2 := Aside0.mk (show Kd.R (Kd.int .i64) 3 Y2 w3.heap.size (fun _ => True) (.slice (some ⟨g, 0, none⟩) 1 c5) [0] by rw [hY2]; exact Kd.R_set hRY1.out hjY1.out (by simp [Kd.int, Kd.scalar]) 2 _)
        have hBY2 := Aside0.mk (show Below base w3 Y2 by rw [hY2]; exact hBY1.out.setCell hbj'.out _)
        refine hK.out _ _ (fun h => absurd h (by decide)) ?_
        clear hK K hY2 x2 f2
        refine Till.done (by kernel_rfl) ?_ _
        obtain ⟨y0, y1, y2, y3, y4, y5⟩ := jc_cells hjY2.out
        have f3 := blk_frozen hjY2.out 3
        have f4 := blk_frozen hjY2.out 4
        go_wp2_with fail
        go_meet
        exact ⟨_, _, _, hjY2, hRY2, hBY2⟩
    · skip
      -- 13
      go_simp
      refine gen_world (fun X1 hX1 => ?_)
      have hjX1 := Aside0.mk (show X1.heap[jb]? = some (.cells (jc p (.slice none 0 0) (.slice none 0 0) 0) 99 (0, 0)) by rw [hX1]; exact blk_alloc hjW.out _)
      have hn13 := Aside0.mk (show X1.heap[W.heap.size]? = some (.cells #[.int .i64 0] 3 (0, 0)) by rw [hX1]; exact blk_new W _)
      have hBX1 := Aside0.mk (show Below w3.heap.size w3 X1 by rw [hX1]; first | exact below_alloc hBW.out _ | exact below_drew (below_alloc hBW.out _))
      have hLX1 := Aside0.mk (show Below W.heap.size W X1 by rw [hX1]; first | exact below_alloc (Below.refl _ _) _ | exact below_drew (below_alloc (Below.refl _ _) _))
      clear hX1
      obtain ⟨x0, x1, x2, x3, x4, x5⟩ := jc_cells hjX1.out
      have hHeld : X1.cell? ⟨jb, 1, none⟩ = some (.slice none 0 0) ∧ X1.cell? ⟨jb, 2, none⟩ = some (.slice none 0 0) := ⟨x1, x2⟩
      clear x0 x1 x2 x3 x4 x5
      refine hK.out _ _ (fun _ => hHeld) ?_
      clear hK K
      refine Till.all (rs := [7]) (by kernel_rfl) (by simp) ?_
      refine Till.Step.cons rfl (fun K hK => ?_) (Till.Step.nil)
      -- 7
      go_simp
      refine gen_world (fun X2 hX2 => ?_)
      have hjX2 := Aside0.mk (show X2.heap[jb]? = some (.cells (jc p (.slice none 0 0) (.slice none 0 0) 0) 99 (0, 0)) by rw [hX2]; exact blk_alloc hjX1.out _)
      have hn7 := Aside0.mk (show X2.heap[X1.heap.size]? = some (.cells #[.int .i64 0] 3 (0, 0)) by rw [hX2]; exact blk_new X1 _)
      have hBX2 := Aside0.mk (show Below w3.heap.size w3 X2 by rw [hX2]; first | exact below_alloc hBX1.out _ | exact below_drew (below_alloc hBX1.out _))
      have hLX2 := Aside0.mk (show Below X1.heap.size X1 X2 by rw [hX2]; first | exact below_alloc (Below.refl _ _) _ | exact below_drew (below_alloc (Below.refl _ _) _))
      replace hn13 := Aside0.mk (blk_below hn13.out hLX2.out)
      clear hX2
      obtain ⟨x0, x1, x2, x3, x4, x5⟩ := jc_cells hjX2.out
      have hHeld : X2.cell? ⟨jb, 1, none⟩ = some (.slice none 0 0) ∧ X2.cell? ⟨jb, 2, none⟩ = some (.slice none 0 0) := ⟨x1, x2⟩
      clear x0 x1 x2 x3 x4 x5
      refine hK.out _ _ (fun _ => hHeld) ?_
      clear hK K
      refine Till.all (rs := [8]) (by kernel_rfl) (by simp) ?_
      refine Till.Step.cons rfl (fun K hK => ?_) (Till.Step.nil)
      -- 8
      refine Kd.R_append_rows_step (Kd.int .i64) (Rr := fun q cs => cs = [Value.int .i64 q]) (w0 := w3) w3.heap.size (by rfl) (.tmp 76) (.tmp 78) 31 3 (.int .i64 0) 8 (by rfl) Try.underlying31 info3 rfl (by decide) (by decide) (.slice none 0 0) [] [0] (some ⟨X1.heap.size, 0, none⟩) 1 1 (fun _ => True) (fun _ => False) (by rfl) (by rfl) (Kd.R_nil _ _ _ _ _) (one_int hn7.out) (fun _ _ h => h) (fun _ h => h.elim) (fun _ _ => trivial) hBX2.out hBX2.out.size (by decide) ?_
      intro v8 X3 hR8 hb8 hg8 hat8
      rw [List.nil_append] at hR8
      obtain ⟨A8, c8, e8⟩ := Kd.R_slice hR8
      subst e8
      have hLX3 := Aside0.mk (grown_below hg8 rfl)
      have hjX3 := Aside0.mk (blk_below hjX2.out hLX3.out)
      have hBX3 := Aside0.mk hb8
      have hR8' := Aside0.mk hR8
      replace hn7 := Aside0.mk (blk_below hn7.out hLX3.out)
      replace hn13 := Aside0.mk (blk_below hn13.out hLX3.out)
      clear hR8 hb8 hg8 hat8
      obtain ⟨x0, x1, x2, x3, x4, x5⟩ := jc_cells hjX3.out
      have hHeld : X3.cell? ⟨jb, 1, none⟩ = some (.slice none 0 0) ∧ X3.cell? ⟨jb, 2, none⟩ = some (.slice none 0 0) := ⟨x1, x2⟩
      clear x0 x1 x2 x3 x4 x5
      refine hK.out _ _ (fun _ => hHeld) ?_
      clear hK K
      refine Till.all (rs := [14]) (by kernel_rfl) (by simp) ?_
      refine Till.Step.cons rfl (fun K hK => ?_) (Till.Step.nil)
      -- 14
      refine Kd.R_append_rows_step (Kd.int .i64) (Rr := fun q cs => cs = [Value.int .i64 q]) (w0 := w3) w3.heap.size (by rfl) (.tmp 83) (.tmp 84) 31 3 (.int .i64 0) 8 (by rfl) Try.underlying31 info3 rfl (by decide) (by decide) (.slice none 0 0) [] [0] (some ⟨W.heap.size, 0, none⟩) 1 1 (fun _ => True) (fun _ => False) (by rfl) (by rfl) (Kd.R_nil _ _ _ _ _) (one_int hn13.out) (fun _ _ h => h) (fun _ h => h.elim) (fun _ _ => trivial) hBX3.out hBX3.out.size (by decide) ?_
      intro v14 X4 hR14 hb14 hg14 hat14
      rw [List.nil_append] at hR14
      have hLX4 := Aside0.mk (grown_below hg14 rfl)
      have hjX4 := Aside0.mk (blk_below hjX3.out hLX4.out)
      have hBX4 := Aside0.mk hb14
      have hR14' := Aside0.mk hR14
      replace hn7 := Aside0.mk (blk_below hn7.out hLX4.out)
      replace hn13 := Aside0.mk (blk_below hn13.out hLX4.out)
      clear hR14 hb14 hg14 hat14
      obtain ⟨x0, x1, x2, x3, x4, x5⟩ := jc_cells hjX4.out
      have hHeld : X4.cell? ⟨jb, 1, none⟩ = some (.slice none 0 0) ∧ X4.cell? ⟨jb, 2, none⟩ = some (.slice none 0 0) := ⟨x1, x2⟩
      clear x0 x1 x2 x3 x4 x5
      refine hK.out _ _ (fun _ => hHeld) ?_
      clear hK K
      obtain ⟨g, c5, e5, hgb, hgl, hgc⟩ := Kd.R_form hR14'.out (by decide)
      subst e5
      clear hgb hgl hgc
      obtain ⟨x0, x1, x2, x3, x4, x5⟩ := jc_cells hjX4.out
      have f1 := blk_frozen hjX4.out 1
      clear x0 x3 x4 x5
      refine Till.pure_take (i := 15) (v := ?_) rfl (by kernel_rfl) (by kernel_rfl) (by kernel_rfl) (by decide) (fun _ _ _ h => h) (Or.inl ⟨by rfl, ?_⟩) (by first | exact fun _ => hHeld | exact fun h => absurd h (by decide)) ?_
      rotate_left
      · (intro w' _; go_simp; (try with_reducible rfl))
      simp only [Act.put, List.setIfInBounds_toArray, List.set_cons_zero, List.set_cons_succ]
      refine Till.pure_take (i := 16) (v := ?_) rfl (by kernel_rfl) (by kernel_rfl) (by kernel_rfl) (by decide) (fun _ _ _ h => h) (Or.inl ⟨by rfl, ?_⟩) (by first | exact fun _ => hHeld | exact fun h => absurd h (by decide)) ?_
      rotate_left
      · (intro w' _; go_simp; (try with_reducible rfl))
      simp only [Act.put, List.setIfInBounds_toArray, List.set_cons_zero, List.set_cons_succ]
      refine Till.all (rs := [17]) (by kernel_rfl) (by simp) ?_
      refine Till.Step.cons rfl (fun K hK => ?_) Till.Step.nil
      go_simp
      refine gen_world (fun Y1 hY1 => ?_)
      have hjY1 := Aside0.mk (show Y1.heap[jb]? = some (.cells (jc p (.slice A8 1 c8) (.slice none 0 0) 0) 99 (0, 0)) by rw [hY1]; exact blk_put hjX4.out 1 _ rfl)
      have hRY1 := Aside0.mk (show Kd.R (Kd.int .i64) 3 Y1 w3.heap.size (fun _ => True) (.slice (some ⟨g, 0, none⟩) 1 c5) [0] by rw [hY1]; exact Kd.R_set hR14'.out hjX4.out (by simp [Kd.int, Kd.scalar]) 1 _)
      have hBY1 := Aside0.mk (show Below base w3 Y1 by rw [hY1]; exact (hBX4.out.mono hb3s.out).setCell hbj'.out _)
      refine hK.out _ _ (fun h => absurd h (by decide)) ?_
      clear hK K hY1 hHeld x1 x2 f1
      refine Till.pure_take (i := 18) (v := ?_) rfl (by kernel_rfl) (by kernel_rfl) (by kernel_rfl) (by decide) (fun _ _ _ h => h) (Or.inl ⟨by rfl, ?_⟩) (by first | exact fun _ => hHeld | exact fun h => absurd h (by decide)) ?_
      rotate_left
      · (intro w' _; go_simp; (try with_reducible rfl))
      simp only [Act.put, List.setIfInBounds_toArray, List.set_cons_zero, List.set_cons_succ]
      refine Till.pure_take (i := 19) (v := ?_) rfl (by kernel_rfl) (by kernel_rfl) (by kernel_rfl) (by decide) (fun _ _ _ h => h) (Or.inl ⟨by rfl, ?_⟩) (by first | exact fun _ => hHeld | exact fun h => absurd h (by decide)) ?_
      rotate_left
      · (intro w' _; go_simp; (try with_reducible rfl))
      simp only [Act.put, List.setIfInBounds_toArray, List.set_cons_zero, List.set_cons_succ]
      refine Till.all (rs := [20]) (by kernel_rfl) (by simp) ?_
      refine Till.Step.cons rfl (fun K hK => ?_) Till.Step.nil
      obtain ⟨x0, x1, x2, x3, x4, x5⟩ := jc_cells hjY1.out
      have f2 := blk_frozen hjY1.out 2
      clear x0 x1 x3 x4 x5
      go_simp
      refine gen_world (fun Y2 hY2 => ?_)
      have hjY2 := Aside0.mk (show Y2.heap[jb]? = some (.cells (jc p (.slice A8 1 c8) (.slice (some ⟨g, 0, none⟩) 1 c5) 0) 99 (0, 0)) by rw [hY2]; exact blk_put hjY1.out 2 _ rfl)
      have hRY2 := Aside0.mk (show Kd.R (Kd.int .i64) 3 Y2 w3.heap.size (fun _ => True) (.slice (some ⟨g, 0, none⟩) 1 c5) [0] by rw [hY2]; exact Kd.R_set hRY1.out hjY1.out (by simp [Kd.int, Kd.scalar]) 2 _)
      have hBY2 := Aside0.mk (show Below base w3 Y2 by rw [hY2]; exact hBY1.out.setCell hbj'.out _)
      refine hK.out _ _ (fun h => absurd h (by decide)) ?_
      clear hK K hY2 x2 f2
      refine Till.done (by kernel_rfl) ?_ _
      obtain ⟨y0, y1, y2, y3, y4, y5⟩ := jc_cells hjY2.out
      have f3 := blk_frozen hjY2.out 3
      have f4 := blk_frozen hjY2.out 4
      go_wp2_with fail
      go_meet
      exact ⟨_, _, _, hjY2, hRY2, hBY2⟩
  case rest =>
    obtain ⟨v4, g, c5, hjx, hRx, hBx⟩ := hcut
    obtain ⟨x0, x1, x2, x3, x4, x5⟩ := jc_cells hjx.out
    have f3 := blk_frozen hjx.out 3
    have f4 := blk_frozen hjx.out 4
    clear x0 x1 x2 x5
    go_upto_region 22 with fail
    refine wp_world fun W6 hW6 => ?_
    have hj6 := Aside0.mk (show W6.heap[jb]? = some (.cells (jc p v4 (.slice (some ⟨g, 0, none⟩) 1 c5) 8) 99 (0, 0)) by rw [hW6]; exact blk_put (blk_put (blk_put hjx.out 3 _ rfl) 4 _ rfl) 3 _ rfl)
    have hR6 := Aside0.mk (show Kd.R (Kd.int .i64) 3 W6 w3.heap.size (fun _ => True) (.slice (some ⟨g, 0, none⟩) 1 c5) [0] by
      rw [hW6]
      have k1 := blk_put hjx.out 3 (.int .i64 0) rfl
      have k2 := blk_put k1 4 (.bool false) rfl
      exact Kd.R_set (Kd.R_set (Kd.R_set hRx.out hjx.out (by simp [Kd.int, Kd.scalar]) 3 _) k1 (by simp [Kd.int, Kd.scalar]) 4 _) k2 (by simp [Kd.int, Kd.scalar]) 3 _)
    have hB6 := Aside0.mk (show Below base w3 W6 by rw [hW6]; exact ((hBx.out.setCell hbj'.out _).setCell hbj'.out _).setCell hbj'.out _)
    obtain ⟨hc, hz⟩ := Kd.R_cell (0 : Int) hR6.out 0 (by decide) (by decide)
    have hc0 : W6.cell? ⟨g, 0, none⟩ = some (.int .i64 0) := hc
    have hz0 : W6.frozen? ⟨g, 0, none⟩ = false := hz
    obtain ⟨g', cg, e5, hgb, hgl, hgc⟩ := Kd.R_form hR6.out (by decide)
    injection e5 with e51 e52 e53
    injection e51 with e54
    injection e54 with e55
    subst e55
    have hgb' := Aside0.mk hgb
    obtain ⟨x0, x1, x2, x3, x4, x5⟩ := jc_cells hj6.out
    have hwb : ∀ s, binOp BinOp.sub 3 (.int .i64 1) (.int .i64 1) = s → s = s := fun _ _ => rfl
    clear hW6 hjx hRx hBx f3 f4 hc hz x0 x1 x3 x4 x5 hgb hgl hgc e52 e53 hwb
    have hHeld : W6.drew.cell? ⟨jb, 2, none⟩ = some (.slice (some ⟨g, 0, none⟩) 1 c5) ∧ W6.drew.cell? ⟨g, 0, none⟩ = some (.int .i64 0) := ⟨x2, hc0⟩
    refine Till.start 14 (fun w' => w'.cell? ⟨jb, 2, none⟩ = some (.slice (some ⟨g, 0, none⟩) 1 c5) ∧ w'.cell? ⟨g, 0, none⟩ = some (.int .i64 0)) (by kernel_rfl) ?_
    refine Till.pure_take (i := 0) (v := ?_) rfl (by kernel_rfl) (by kernel_rfl) (by kernel_rfl) (by decide) (fun _ _ _ h => h) (Or.inl ⟨by rfl, ?_⟩) (by first | exact fun _ => hHeld | exact fun h => absurd h (by decide)) ?_
    rotate_left
    · (intro w' _; go_simp; (try with_reducible rfl))
    simp only [Act.put, List.setIfInBounds_toArray, List.set_cons_zero, List.set_cons_succ]
    refine Till.pure_take (i := 1) (v := ?_) rfl (by kernel_rfl) (by kernel_rfl) (by kernel_rfl) (by decide) (fun _ _ _ h => h) (Or.inl ⟨by rfl, ?_⟩) (by first | exact fun _ => hHeld | exact fun h => absurd h (by decide)) ?_
    rotate_left
    · (intro w' _; go_simp; (try with_reducible rfl))
    simp only [Act.put, List.setIfInBounds_toArray, List.set_cons_zero, List.set_cons_succ]
    refine Till.pure_take (i := 2) (v := ?_) rfl (by kernel_rfl) (by kernel_rfl) (by kernel_rfl) (by decide) (fun _ _ _ h => h) (Or.inl ⟨by rfl, ?_⟩) (by first | exact fun _ => hHeld | exact fun h => absurd h (by decide)) ?_
    rotate_left
    · (intro w' _; go_simp; (try with_reducible rfl))
    simp only [Act.put, List.setIfInBounds_toArray, List.set_cons_zero, List.set_cons_succ]
    refine Till.load_take 10 (i := 3) (v := ?_) rfl (by kernel_rfl) (by kernel_rfl) (by kernel_rfl) (by decide) (by kernel_rfl) (by kernel_rfl) (by kernel_rfl) (by kernel_rfl) (fun _ _ _ h => h) (Or.inl ⟨by rfl, ?_⟩) hHeld ?_
    rotate_left
    · (intro w' hSw; (try dsimp only at hSw); go_simp; (try with_reducible rfl))
    simp only [Act.put, List.setIfInBounds_toArray, List.set_cons_zero, List.set_cons_succ]
    refine Till.pure_take (i := 4) (v := ?_) rfl (by kernel_rfl) (by kernel_rfl) (by kernel_rfl) (by decide) (fun _ _ _ h => h) (Or.inl ⟨by rfl, ?_⟩) (by first | exact fun _ => hHeld | exact fun h => absurd h (by decide)) ?_
    rotate_left
    · (intro w' _; go_simp; (try with_reducible rfl))
    simp only [Act.put, List.setIfInBounds_toArray, List.set_cons_zero, List.set_cons_succ]
    refine Till.pure_take (i := 5) (v := ?_) rfl (by kernel_rfl) (by kernel_rfl) (by kernel_rfl) (by decide) (fun _ _ _ h => h) (Or.inl ⟨by rfl, ?_⟩) (by first | exact fun _ => hHeld | exact fun h => absurd h (by decide)) ?_
    rotate_left
    · (intro w' _; go_simp; (try with_reducible rfl))
    simp only [Act.put, List.setIfInBounds_toArray, List.set_cons_zero, List.set_cons_succ]
    refine Till.pure_take (i := 6) (v := ?_) rfl (by kernel_rfl) (by kernel_rfl) (by kernel_rfl) (by decide) (fun _ _ _ h => h) (Or.inl ⟨by rfl, ?_⟩) (by first | exact fun _ => hHeld | exact fun h => absurd h (by decide)) ?_
    rotate_left
    · (intro w' _; go_simp; (try with_reducible rfl))
    simp only [Act.put, List.setIfInBounds_toArray, List.set_cons_zero, List.set_cons_succ]
    refine Till.load_take 8 (i := 7) (v := ?_) rfl (by kernel_rfl) (by kernel_rfl) (by kernel_rfl) (by decide) (by kernel_rfl) (by kernel_rfl) (by kernel_rfl) (by kernel_rfl) (fun _ _ _ h => h) (Or.inl ⟨by rfl, ?_⟩) hHeld ?_
    rotate_left
    · (intro w' hSw; (try dsimp only at hSw); go_simp; (try with_reducible rfl))
    simp only [Act.put, List.setIfInBounds_toArray, List.set_cons_zero, List.set_cons_succ]
    refine Till.pure_take (i := 8) (v := ?_) rfl (by kernel_rfl) (by kernel_rfl) (by kernel_rfl) (by decide) (fun _ _ _ h => h) (Or.inl ⟨by rfl, ?_⟩) (by first | exact fun _ => hHeld | exact fun h => absurd h (by decide)) ?_
    rotate_left
    · (intro w' _; go_simp; (try with_reducible rfl))
    simp only [Act.put, List.setIfInBounds_toArray, List.set_cons_zero, List.set_cons_succ]
    have hw0 : IntKind.i64.wrap (0 : Int) = 0 := by decide
    have hw1 : IntKind.i64.wrap (1 : Int) = 1 := by decide
    refine Till.pure_take (i := 9) (v := ?_) rfl (by kernel_rfl) (by kernel_rfl) (by kernel_rfl) (by decide) (fun _ _ _ h => h) (Or.inl ⟨by rfl, ?_⟩) (by first | exact fun _ => hHeld | exact fun h => absurd h (by decide)) ?_
    rotate_left
    · (intro w' _; go_simp; (try with_reducible rfl))
    simp only [Act.put, List.setIfInBounds_toArray, List.set_cons_zero, List.set_cons_succ]
    refine Till.pure_take (i := 10) (v := ?_) rfl (by kernel_rfl) (by kernel_rfl) (by kernel_rfl) (by decide) (fun _ _ _ h => h) (Or.inl ⟨by rfl, ?_⟩) (by first | exact fun _ => hHeld | exact fun h => absurd h (by decide)) ?_
    rotate_left
    · (intro w' _; go_simp; (try with_reducible rfl))
    simp only [Act.put, List.setIfInBounds_toArray, List.set_cons_zero, List.set_cons_succ]
    refine Till.load_take 12 (i := 11) (v := ?_) rfl (by kernel_rfl) (by kernel_rfl) (by kernel_rfl) (by decide) (by kernel_rfl) (by kernel_rfl) (by kernel_rfl) (by kernel_rfl) (fun _ _ _ h => h) (Or.inl ⟨by rfl, ?_⟩) hHeld ?_
    rotate_left
    · (intro w' hSw; (try dsimp only at hSw); go_simp; (try with_reducible rfl))
    simp only [Act.put, List.setIfInBounds_toArray, List.set_cons_zero, List.set_cons_succ]
    refine Till.pure_take (i := 12) (v := ?_) rfl (by kernel_rfl) (by kernel_rfl) (by kernel_rfl) (by decide) (fun _ _ _ h => h) (Or.inl ⟨by rfl, ?_⟩) (by first | exact fun _ => hHeld | exact fun h => absurd h (by decide)) ?_
    rotate_left
    · (intro w' _; go_simp; (try with_reducible rfl))
    simp only [Act.put, List.setIfInBounds_toArray, List.set_cons_zero, List.set_cons_succ]
    refine Till.pure_take (i := 13) (v := ?_) rfl (by kernel_rfl) (by kernel_rfl) (by kernel_rfl) (by decide) (fun _ _ _ h => h) (Or.inl ⟨by rfl, ?_⟩) (by first | exact fun _ => hHeld | exact fun h => absurd h (by decide)) ?_
    rotate_left
    · (intro w' _; go_simp; (try with_reducible rfl))
    simp only [Act.put, List.setIfInBounds_toArray, List.set_cons_zero, List.set_cons_succ]
    refine Till.all (rs := [14]) (by kernel_rfl) (by simp) ?_
    refine Till.Step.cons rfl (fun K hK => ?_) Till.Step.nil
    go_simp
    refine hK.out _ _ (fun h => absurd h (by decide)) ?_
    clear hK K
    refine Till.done (by kernel_rfl) ?_ _
    go_wp2
    go_ret
    have hB3 : Below base w w3 := ((hd1'.out.mono hbs.out).trans (hb2'.out.mono (by have h1 := hbs.out; have h2 := hd1'.out.size; omega))).trans hb3'.out
    have hgj : jb ≠ g := fun e => by
      have h1 := hgb'.out
      have h2 := blk_lt hj'.out
      have h3 := hB3.size
      omega
    refine ⟨rfl, ⟨v4, 8, g, ⟨c5, ?_⟩, ?_⟩, ?_⟩
    · exact (Below.heap_setCell W6 ⟨g, 0, none⟩ _ jb hgj).trans hj6.out
    · have h5 : Kd.R (Kd.int .i64) 3 (W6.setCell ⟨g, 0, none⟩ (.int .i64 1)) w3.heap.size (fun _ => True) (.slice (some ⟨g, 0, none⟩) ([1] : List Int).length c5) [1] := (Kd.R_put hR6.out 0 (1 : Int)).1
      exact (Kd.R_cell (0 : Int) h5 0 (by decide) (by decide)).1
    · refine below_drew ?_
      exact (hB3.trans hB6.out).setCell (by have h1 := hgb'.out; have h2 := hb3s.out; show base ≤ g; omega) _
end Go.Proofs.Ytnplnelhodnonaa.Dsk
