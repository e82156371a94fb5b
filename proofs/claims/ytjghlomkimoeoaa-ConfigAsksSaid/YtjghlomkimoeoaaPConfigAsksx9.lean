-- Written by fprint.py (wip), by way of the printer's functions; where they are turned, by texts of mine.
import Derived.Test.YtjghlomkimoeoaaPConfigAsksx0
import Derived.Test.YtjghlomkimoeoaaPConfigAsksx2
import Derived.Test.YtjghlomkimoeoaaPConfigAsksx3
import Derived.Test.YtjghlomkimoeoaaPConfigAsksx6
import Derived.Test.YtjghlomkimoeoaaPConfigAsksx7
namespace Go.Proofs.Ytjghlomkimoeoaa.PConfigAsks
open Go.RowKit Go.Proofs.YtjghlomkimoeoaaW.PrintWords Go.Proofs.YtjghlomkimoeoaaW.PrintLast Go.Proofs.YtjghlomkimoeoaaW.PrintMore
attribute [local go_sem] max2_int min2_int max_two min_two max_three min_three max_four min_four   -- for this text's walks alone
set_option linter.unusedVariables false
set_option linter.unusedSimpArgs false
theorem kz9_1 {p_ : Prop} (h_ : p_ := by (with_reducible repeat (first | refine blk_drewN ?_ _ | refine blk_drew ?_ | refine blk_alloc ?_ _)); refine blk_put (cs := #[.string ((rd_T86 l0 x10_1).f0), .int .i64 ((rd_T86 l0 x10_1).f1), .int .i64 ((rd_T86 l0 x10_1).f2), .int .i64 ((rd_T86 l0 x10_1).f3), .bool ((rd_T86 l0 x10_1).f4), .bool ((rd_T86 l0 x10_1).f5), .bool false]) ?_ 6 _ rfl; (with_reducible repeat (first | refine blk_drewN ?_ _ | refine blk_drew ?_ | refine blk_alloc ?_ _)); refine blk_put (cs := #[.string ((rd_T86 l0 x10_1).f0), .int .i64 ((rd_T86 l0 x10_1).f1), .int .i64 ((rd_T86 l0 x10_1).f2), .int .i64 ((rd_T86 l0 x10_1).f3), .bool ((rd_T86 l0 x10_1).f4), .bool false, .bool false]) ?_ 5 _ rfl; (with_reducible repeat (first | refine blk_drewN ?_ _ | refine blk_drew ?_ | refine blk_alloc ?_ _)); refine blk_put (cs := #[.string ((rd_T86 l0 x10_1).f0), .int .i64 ((rd_T86 l0 x10_1).f1), .int .i64 ((rd_T86 l0 x10_1).f2), .int .i64 ((rd_T86 l0 x10_1).f3), .bool false, .bool false, .bool false]) ?_ 4 _ rfl; (with_reducible repeat (first | refine blk_drewN ?_ _ | refine blk_drew ?_ | refine blk_alloc ?_ _)); refine blk_put (cs := #[.string ((rd_T86 l0 x10_1).f0), .int .i64 ((rd_T86 l0 x10_1).f1), .int .i64 ((rd_T86 l0 x10_1).f2), .int .i64 0, .bool false, .bool false, .bool false]) ?_ 3 _ rfl; (with_reducible repeat (first | refine blk_drewN ?_ _ | refine blk_drew ?_ | refine blk_alloc ?_ _)); refine blk_put (cs := #[.string ((rd_T86 l0 x10_1).f0), .int .i64 ((rd_T86 l0 x10_1).f1), .int .i64 0, .int .i64 0, .bool false, .bool false, .bool false]) ?_ 2 _ rfl; (with_reducible repeat (first | refine blk_drewN ?_ _ | refine blk_drew ?_ | refine blk_alloc ?_ _)); refine blk_put (cs := #[.string ((rd_T86 l0 x10_1).f0), .int .i64 0, .int .i64 0, .int .i64 0, .bool false, .bool false, .bool false]) ?_ 1 _ rfl; (with_reducible repeat (first | refine blk_drewN ?_ _ | refine blk_drew ?_ | refine blk_alloc ?_ _)); refine blk_put (cs := #[.string (⟨#[]⟩ : ByteArray), .int .i64 0, .int .i64 0, .int .i64 0, .bool false, .bool false, .bool false]) ?_ 0 _ rfl; (with_reducible repeat (first | refine blk_drewN ?_ _ | refine blk_drew ?_ | refine blk_alloc ?_ _)); exact BK208.out) : p_ := h_
theorem kz9_2 {p_ : Prop} (h_ : p_ := by repeat (first | (with_reducible first | exact HB.out | apply below_alloc | apply pw_below_drewN | apply below_drew1) | exact HB.out)) : p_ := h_
theorem kz9_3 {p_ : Prop} (h_ : p_ := by repeat (first | (with_reducible first | exact HB.out | apply below_alloc | apply pw_below_drewN | apply below_drew1 | refine below_set ?_ GE208.out) | exact HB.out)) : p_ := h_
theorem kz9_4 {p_ : Prop} (h_ : p_ := by first | (with_reducible assumption) | assumption) : p_ := h_
theorem kz9_5 {p_ : Prop} (h_ : p_ := by (with_reducible repeat (first | apply Kd.R_alloc | apply Kd.R_drewN | apply Kd.R_drew)); exact (Kd.R_mono (Kd.R_far (p := ⟨gb208, 6, none⟩) (Kd.R_far (p := ⟨gb208, 5, none⟩) (Kd.R_far (p := ⟨gb208, 4, none⟩) (Kd.R_far (p := ⟨gb208, 3, none⟩) (Kd.R_far (p := ⟨gb208, 2, none⟩) (Kd.R_far (p := ⟨gb208, 1, none⟩) (Kd.R_far (p := ⟨gb208, 0, none⟩) (Kd.R_types HO_5.out BK208.out (by decide)) (fun _ hk => hk.2) (.string ((rd_T86 l0 x10_1).f0))) (fun _ hk => hk.2) (.int .i64 ((rd_T86 l0 x10_1).f1))) (fun _ hk => hk.2) (.int .i64 ((rd_T86 l0 x10_1).f2))) (fun _ hk => hk.2) (.int .i64 ((rd_T86 l0 x10_1).f3))) (fun _ hk => hk.2) (.bool ((rd_T86 l0 x10_1).f4))) (fun _ hk => hk.2) (.bool ((rd_T86 l0 x10_1).f5))) (fun _ hk => hk.2) (.bool true)) (fun _ h_ => h_.1))) : p_ := h_
theorem kz9_6 {p_ : Prop} (h_ : p_ := by (try simp only [List.map_toArray, List.map_cons, List.map_nil]); first | done | rfl | (simp only [List.length_drop, List.length_take]; rfl)) : p_ := h_
theorem kz9_7 {p_ : Prop} (h_ : p_ := by (with_reducible repeat (first | apply Kd.R_alloc | apply Kd.R_drewN | apply Kd.R_drew)); exact HO_5.out) : p_ := h_
theorem kz9_8 {p_ : Prop} (h_ : p_ := by first | rfl | (simp; done) | (simp [*]; done)) : p_ := h_

/-! ### config_Leaves: function 55 -/
def config_Leaves.l0 : Nat → List (S86) → List Int → List Int → List (S86) → Int → Int → Option (List Int)
 | 0, _, _, _, _, _, _ => none
 | k + 1, x0, x1, x5, x8, x9, x10 => if x10 < x9 then (if 0 ≤ x10 then (if x10 < (x8.length : Int) then (if (rd_T86 x8 x10).f6 = true then ((slices_Contains_int_int.f k x1 x10).bind fun t209 => (if t209 = true then ((tree_Formed.f k x0).bind fun t210 => (if t210 = true then (if x5.length < 17592186044416 then (config_Leaves.l0 k x0 x1 (x5 ++ [x10]) x8 x9 (wrap64 (x10 + 1))) else (none)) else (config_Leaves.l0 k x0 x1 x5 x8 x9 (wrap64 (x10 + 1))))) else (config_Leaves.l0 k x0 x1 x5 x8 x9 (wrap64 (x10 + 1))))) else (config_Leaves.l0 k x0 x1 x5 x8 x9 (wrap64 (x10 + 1)))) else (none)) else (none)) else (some x5)
def config_Leaves.f (k : Nat) (l0 : List (S86)) (l1 : List Int) : Option (List Int) := config_Leaves.l0 k l0 l1 ([] : List Int) l0 (l0.length : Int) 0
theorem config_Leaves.mono_l : ∀ k, (∀ y0 y1 y2 y3 y4 y5, LeO (config_Leaves.l0 k y0 y1 y2 y3 y4 y5) (config_Leaves.l0 (k + 1) y0 y1 y2 y3 y4 y5))
 | 0 => fun _ _ _ _ _ _ r h => by simp [config_Leaves.l0] at h
 | k + 1 => by
  have ih0 := config_Leaves.mono_l k
  ·intro y0 y1 y2 y3 y4 y5
   unfold config_Leaves.l0
   repeat' first
   | (with_reducible exact ih0 _ _ _ _ _ _)
   | (with_reducible exact slices_Contains_int_int.mono _ _ _)
   | (with_reducible exact tree_Formed.mono _ _)
   | (with_reducible exact LeO.refl _)
   | (with_reducible exact LeO.none _)
   | (with_reducible refine LeO.ite ?_ ?_)
   | (with_reducible refine LeO.bind ?_ (fun _ => ?_))
   | exact ih0 _ _ _ _ _ _
   | exact slices_Contains_int_int.mono _ _ _
   | exact tree_Formed.mono _ _
   | exact LeO.none _
   | refine LeO.ite ?_ ?_
   | refine LeO.bind ?_ (fun _ => ?_)
theorem config_Leaves.mono : ∀ a0 a1 k, LeO (config_Leaves.f k a0 a1) (config_Leaves.f (k + 1) a0 a1) := by
 intro a0 a1 k
 have ih0 := config_Leaves.mono_l k
 unfold config_Leaves.f
 repeat' first
   | (with_reducible exact ih0 _ _ _ _ _ _)
   | (with_reducible exact slices_Contains_int_int.mono _ _ _)
   | (with_reducible exact tree_Formed.mono _ _)
   | (with_reducible exact LeO.refl _)
   | (with_reducible exact LeO.none _)
   | (with_reducible refine LeO.ite ?_ ?_)
   | (with_reducible refine LeO.bind ?_ (fun _ => ?_))
   | exact ih0 _ _ _ _ _ _
   | exact slices_Contains_int_int.mono _ _ _
   | exact tree_Formed.mono _ _
   | exact LeO.none _
   | refine LeO.ite ?_ ?_
   | refine LeO.bind ?_ (fun _ => ?_)
set_option maxHeartbeats 8000000 in
set_option maxRecDepth 100000 in
theorem config_Leaves.calls (k : Nat) (A0 : Option Addr) (c0 : Nat) (l0 : List (S86)) (A1 : Option Addr) (c1 : Nat) (l1 : List Int) (r : List Int) (w : World) (hr0 : Kd.C k86 w A0 l0.length l0) (hc0 : l0.length ≤ c0) (hr1 : Kd.C (Kd.int .i64) w A1 l1.length l1) (hc1 : l1.length ≤ c1) (h : config_Leaves.f k l0 l1 = some r) :
  Calls Try.prog 55 #[.slice A0 l0.length c0, .slice A1 l1.length c1] w fun e w' => ∃ v0_ : Value, e = .returned (v0_) ∧ Kd.R (Kd.int .i64) 3 w' w.heap.size (fun _ => True) v0_ r ∧ Below w.heap.size w w' := by
 have hu86 := Try.underlying86
 have HR0 := Aside0.mk hr0
 have HC0 := Aside0.mk hc0
 clear hr0 hc0
 have HR1 := Aside0.mk hr1
 have HC1 := Aside0.mk hc1
 clear hr1 hc1
 have HB := Aside0.mk (Below.refl w.heap.size w)
 have H : (config_Leaves.l0 k l0 l1 ([] : List Int) l0 (l0.length : Int) 0) = some r := h
 clear h
 have H' := Aside0.mk H
 clear H
 go_enter Try.func55, Try.ntmps55
 go_wp2
 go_loopg [5, 10] k (fun kq v5 v10 w' => ∃ (x5_1 : List Int) (x10_1 : Int), v10 = .int .i64 x10_1 ∧ Aside0 (config_Leaves.l0 kq l0 l1 x5_1 l0 (l0.length : Int) x10_1 = some r) ∧ Aside0 (kq ≤ k) ∧ Aside0 (Kd.R (Kd.int .i64) 3 w' w.heap.size (fun _ => True) v5 x5_1) ∧ Aside0 (Below w.heap.size w w'))
 case atStart => exact ⟨(([] : List Int)), (0), kz9_8, H', ⟨Nat.le_refl _⟩, ⟨by first | exact Kd.R_nil _ _ _ _ _ | exact Kd.N_nil _ _ _ _ _ | exact Kd.V_nil _ _ _ _ _ | exact Kd.Q_nil _ _ _ _ _ | exact Kd.S_nil _ _ _ _ _⟩, ⟨by repeat (first | (with_reducible first | exact HB.out | apply below_alloc | apply pw_below_drewN | apply below_drew1) | exact HB.out)⟩⟩
 case round =>
  clear H'
  try clear c1
  try clear p2
  obtain ⟨x5_1, x10_1, rfl, HA, HK1, HO_5, HB⟩ := hrel
  cases gk with
  | zero => exact absurd HA.out (by simp [config_Leaves.l0])
  | succ k1 =>
   have H := HA.out
   clear HA
   simp only [config_Leaves.l0] at H
   by_cases c3 : x10_1 < (l0.length : Int)
   ·rw [if_pos c3] at H
    have c3b0 : decide (x10_1 < (l0.length : Int)) = true := decide_eq_true c3
    clear c3
    by_cases c4 : 0 ≤ x10_1
    ·rw [if_pos c4] at H
     have c4b0 : decide (0 ≤ x10_1) = true := decide_eq_true c4
     clear c4
     by_cases c5 : x10_1 < (l0.length : Int)
     ·rw [if_pos c5] at H
      have c5b0 : decide (x10_1 < (l0.length : Int)) = true := decide_eq_true c5
      clear c5
      obtain ⟨bq6, hbq6⟩ : ∃ b_ : Bool, b_ = ((rd_T86 l0 x10_1).f6) := ⟨_, rfl⟩
      replace H : (if bq6 = true then ((slices_Contains_int_int.f k1 l1 x10_1).bind fun t209 => (if t209 = true then ((tree_Formed.f k1 l0).bind fun t210 => (if t210 = true then (if x5_1.length < 17592186044416 then (config_Leaves.l0 k1 l0 l1 (x5_1 ++ [x10_1]) l0 (l0.length : Int) (wrap64 (x10_1 + 1))) else (none)) else (config_Leaves.l0 k1 l0 l1 x5_1 l0 (l0.length : Int) (wrap64 (x10_1 + 1))))) else (config_Leaves.l0 k1 l0 l1 x5_1 l0 (l0.length : Int) (wrap64 (x10_1 + 1))))) else (config_Leaves.l0 k1 l0 l1 x5_1 l0 (l0.length : Int) (wrap64 (x10_1 + 1)))) = some r := by rw [← hbq6] at H; exact H
      have Nbq6 := Aside0.mk hbq6
      clear hbq6
      by_cases c7 : bq6 = true
      ·subst c7
       have H1 : ((slices_Contains_int_int.f k1 l1 x10_1).bind fun t209 => (if t209 = true then ((tree_Formed.f k1 l0).bind fun t210 => (if t210 = true then (if x5_1.length < 17592186044416 then (config_Leaves.l0 k1 l0 l1 (x5_1 ++ [x10_1]) l0 (l0.length : Int) (wrap64 (x10_1 + 1))) else (none)) else (config_Leaves.l0 k1 l0 l1 x5_1 l0 (l0.length : Int) (wrap64 (x10_1 + 1))))) else (config_Leaves.l0 k1 l0 l1 x5_1 l0 (l0.length : Int) (wrap64 (x10_1 + 1))))) = some r := by rw [if_pos rfl] at H; exact H
       clear H
       have H := H1
       clear H1
       replace H := Option.bind_eq_some_iff.mp H
       obtain ⟨t209, A80, H⟩ := H
       replace H : (if t209 = true then ((tree_Formed.f k1 l0).bind fun t210 => (if t210 = true then (if x5_1.length < 17592186044416 then (config_Leaves.l0 k1 l0 l1 (x5_1 ++ [x10_1]) l0 (l0.length : Int) (wrap64 (x10_1 + 1))) else (none)) else (config_Leaves.l0 k1 l0 l1 x5_1 l0 (l0.length : Int) (wrap64 (x10_1 + 1))))) else (config_Leaves.l0 k1 l0 l1 x5_1 l0 (l0.length : Int) (wrap64 (x10_1 + 1)))) = some r := H
       have A8 := Aside0.mk A80
       clear A80
       by_cases c9 : t209 = true
       ·subst c9
        have H1 : ((tree_Formed.f k1 l0).bind fun t210 => (if t210 = true then (if x5_1.length < 17592186044416 then (config_Leaves.l0 k1 l0 l1 (x5_1 ++ [x10_1]) l0 (l0.length : Int) (wrap64 (x10_1 + 1))) else (none)) else (config_Leaves.l0 k1 l0 l1 x5_1 l0 (l0.length : Int) (wrap64 (x10_1 + 1))))) = some r := by rw [if_pos rfl] at H; exact H
        clear H
        have H := H1
        clear H1
        replace H := Option.bind_eq_some_iff.mp H
        obtain ⟨t210, A100, H⟩ := H
        replace H : (if t210 = true then (if x5_1.length < 17592186044416 then (config_Leaves.l0 k1 l0 l1 (x5_1 ++ [x10_1]) l0 (l0.length : Int) (wrap64 (x10_1 + 1))) else (none)) else (config_Leaves.l0 k1 l0 l1 x5_1 l0 (l0.length : Int) (wrap64 (x10_1 + 1)))) = some r := H
        have A10 := Aside0.mk A100
        clear A100
        by_cases c11 : t210 = true
        ·subst c11
         have H1 : (if x5_1.length < 17592186044416 then (config_Leaves.l0 k1 l0 l1 (x5_1 ++ [x10_1]) l0 (l0.length : Int) (wrap64 (x10_1 + 1))) else (none)) = some r := by rw [if_pos rfl] at H; exact H
         clear H
         have H := H1
         clear H1
         by_cases c12 : x5_1.length < 17592186044416
         ·rw [if_pos c12] at H
          have LMc12 := Aside0.mk c12
          clear c12
          obtain ⟨y211, hy211⟩ : ∃ y_ : List Int, y_ = (x5_1 ++ [x10_1]) := ⟨_, rfl⟩
          replace H : (config_Leaves.l0 k1 l0 l1 y211 l0 (l0.length : Int) (wrap64 (x10_1 + 1))) = some r := by first | (rw [hy211]; with_reducible exact H) | (have H2_ := (Option.bind_some _ _).symm.trans H; rw [hy211]; with_reducible exact H2_) | (have H2_ := (Option.bind_some _ _).symm.trans H; with_reducible exact H2_) | with_reducible exact H | (rw [hy211]; exact H) | exact H
          have Ny211 := Aside0.mk hy211
          clear hy211
          have H' := Aside0.mk H
          clear H
          have p207 : 0 ≤ (x10_1 : Int) := of_decide_eq_true kz9_4
          have q207 : x10_1 < (l0.length : Int) := of_decide_eq_true kz9_4
          obtain ⟨ad207, e207, hx207_0, hx207_1, hx207_2, hx207_3, hx207_4, hx207_5, hx207_6⟩ := at_T86 HR0.out x10_1 p207 q207
          (try rw [← Nbq6.out] at hx207_4)
          (try rw [← Nbq6.out] at hx207_5)
          (try rw [← Nbq6.out] at hx207_6)
          cases e207
          replace hx207_0 := (HB.out.cell (World.block_lt_of_cell? w _ hx207_0)).trans hx207_0
          replace hx207_1 := (HB.out.cell (World.block_lt_of_cell? w _ hx207_1)).trans hx207_1
          replace hx207_2 := (HB.out.cell (World.block_lt_of_cell? w _ hx207_2)).trans hx207_2
          replace hx207_3 := (HB.out.cell (World.block_lt_of_cell? w _ hx207_3)).trans hx207_3
          replace hx207_4 := (HB.out.cell (World.block_lt_of_cell? w _ hx207_4)).trans hx207_4
          replace hx207_5 := (HB.out.cell (World.block_lt_of_cell? w _ hx207_5)).trans hx207_5
          replace hx207_6 := (HB.out.cell (World.block_lt_of_cell? w _ hx207_6)).trans hx207_6
          replace p207 := eq_true p207
          replace q207 := eq_true q207
          go_wp2_with (first | ((with_reducible refine gate_dst (N := 7) rfl ?_); refine box_event ?hg (N := 7) ?hd (cs := #[.string (⟨#[]⟩ : ByteArray), .int .i64 0, .int .i64 0, .int .i64 0, .bool false, .bool false, .bool false]) (t := 86) ?hr ?_; (case hd => rfl); (case hg => rfl); (case hr => first | (go_simp; done) | (go_simp; rfl)); intro gb208 hg w13 hbox hb; have n0_ := Aside0.mk (Kd.R_below kz9_7 hb); have n1_ := Aside0.mk (below_step kz9_2 hb); have n2_ := Aside0.mk (hbox); have n3_ := Aside0.mk ((by rw [hg]; exact (below_size kz9_2) : w.heap.size ≤ gb208)); have n4_ := Aside0.mk ((by rw [hg]; exact (below_size kz9_2) : w.heap.size ≤ gb208)); clear HO_5; clear HB; have HO_5 := n0_; have HB := n1_; have BK208 := n2_; have GW208 := n3_; have GE208 := n4_; clear n0_ n1_ n2_ n3_ n4_; clear hb hbox hg; have hcz14_0 : w13.cell? ⟨gb208, 0, none⟩ = some (.string (⟨#[]⟩ : ByteArray)) := (blk_cell BK208.out 0).trans rfl; have hcz14_1 : w13.cell? ⟨gb208, 1, none⟩ = some (.int .i64 0) := (blk_cell BK208.out 1).trans rfl; have hcz14_2 : w13.cell? ⟨gb208, 2, none⟩ = some (.int .i64 0) := (blk_cell BK208.out 2).trans rfl; have hcz14_3 : w13.cell? ⟨gb208, 3, none⟩ = some (.int .i64 0) := (blk_cell BK208.out 3).trans rfl; have hcz14_4 : w13.cell? ⟨gb208, 4, none⟩ = some (.bool false) := (blk_cell BK208.out 4).trans rfl; have hcz14_5 : w13.cell? ⟨gb208, 5, none⟩ = some (.bool false) := (blk_cell BK208.out 5).trans rfl; have hcz14_6 : w13.cell? ⟨gb208, 6, none⟩ = some (.bool false) := (blk_cell BK208.out 6).trans rfl; have hfz14_0 := blk_frozen BK208.out 0; have hfz14_1 := blk_frozen BK208.out 1; have hfz14_2 := blk_frozen BK208.out 2; have hfz14_3 := blk_frozen BK208.out 3; have hfz14_4 := blk_frozen BK208.out 4; have hfz14_5 := blk_frozen BK208.out 5; have hfz14_6 := blk_frozen BK208.out 6) | (go_at_call 84; (with_reducible refine (slices_Contains_int_int.calls k1 _ _ l1 x10_1 true _ ?side1 ?side2 A8.out).mono ?_); (case side1 => exact Kd.C_below HR1.out kz9_3); (case side2 => exact HC1.out); rintro e w' ⟨rfl, ⟨nd, rfl⟩⟩) | (go_at_call 80; (with_reducible refine (tree_Formed.calls k1 _ _ l0 true _ ?side1 ?side2 A10.out).mono ?_); (case side1 => exact Kd.C_below HR0.out kz9_3); (case side2 => exact HC0.out); rintro e w15 ⟨rfl, hb⟩; have n0_ := Aside0.mk (Kd.R_below kz9_5 hb); have n1_ := Aside0.mk (blk_below (g := gb208) (o := .cells #[.string ((rd_T86 l0 x10_1).f0), .int .i64 ((rd_T86 l0 x10_1).f1), .int .i64 ((rd_T86 l0 x10_1).f2), .int .i64 ((rd_T86 l0 x10_1).f3), .bool ((rd_T86 l0 x10_1).f4), .bool ((rd_T86 l0 x10_1).f5), .bool true] 86 (0, 0)) kz9_1 hb); have n2_ := Aside0.mk (below_step kz9_3 hb); clear HO_5; clear BK208; clear HB; have HO_5 := n0_; have BK208 := n1_; have HB := n2_; clear n0_ n1_ n2_; (try clear hb); (try clear hb2); (try clear hk); (try clear hi)) | ((with_reducible refine gate_builtin (b := .append) (xs := #[.tmp 26, .tmp 28]) rfl ?_); at_builtin; refine Kd.R_append (Kd.int .i64) (w0 := w) w.heap.size rfl (.tmp 26) (.tmp 28) 65 3 (.int .i64 0) 8 rfl Try.underlying65 info3 rfl (by decide) (by omega) u5 x5_1 x10_1 [.int .i64 x10_1] (fun _ => True) (fun _ => False) rfl rfl ?aP (fun _ hk => hk.elim) ?aF ?aO ?aB ?aS ?aL ?_; (case aP => exact rfl); (case aB => exact kz9_3); (case aF => exact (fun _ _ => trivial)); (case aO => exact kz9_7); (case aS => exact (below_size kz9_3)); (case aL => have := LMc12.out; omega); intro v212 w16 ho hb hg hat; rw [← Ny211.out] at ho; have n0_ := Aside0.mk (blk_grown (g := gb208) (o := .cells #[.string ((rd_T86 l0 x10_1).f0), .int .i64 ((rd_T86 l0 x10_1).f1), .int .i64 ((rd_T86 l0 x10_1).f2), .int .i64 ((rd_T86 l0 x10_1).f3), .bool ((rd_T86 l0 x10_1).f4), .bool ((rd_T86 l0 x10_1).f5), .bool true] 86 (0, 0)) (by (with_reducible repeat (first | refine blk_drewN ?_ _ | refine blk_drew ?_ | refine blk_alloc ?_ _)); exact BK208.out) hg (Kd.R_ne HO_5.out BK208.out (by decide))); have n1_ := Aside0.mk (hb); have n2_ := Aside0.mk (ho); clear BK208; clear HB; clear HO_5; have BK208 := n0_; have HB := n1_; have HO213 := n2_; clear n0_ n1_ n2_; clear ho hb hg hat))
          go_roundg k1
          case measure => have := HK1.out; omega
          case rel => exact ⟨(y211), (wrap64 (x10_1 + 1)), kz9_8, H', ⟨by have := HK1.out; omega⟩, ⟨by (with_reducible repeat (first | apply Kd.R_alloc | apply Kd.R_drewN | apply Kd.R_drew)); exact HO213.out⟩, ⟨by repeat (first | (with_reducible first | exact HB.out | apply below_alloc | apply pw_below_drewN | apply below_drew1 | refine below_set ?_ GE208.out) | exact HB.out)⟩⟩
         ·rw [if_neg c12] at H
          exact absurd H (by simp)
        ·replace c11 := Bool.eq_false_iff.mpr c11
         subst c11
         have H1 : (config_Leaves.l0 k1 l0 l1 x5_1 l0 (l0.length : Int) (wrap64 (x10_1 + 1))) = some r := by rw [if_neg (show ¬ (false = true) by decide)] at H; exact H
         clear H
         have H := H1
         clear H1
         have H' := Aside0.mk H
         clear H
         have p207 : 0 ≤ (x10_1 : Int) := of_decide_eq_true kz9_4
         have q207 : x10_1 < (l0.length : Int) := of_decide_eq_true kz9_4
         obtain ⟨ad207, e207, hx207_0, hx207_1, hx207_2, hx207_3, hx207_4, hx207_5, hx207_6⟩ := at_T86 HR0.out x10_1 p207 q207
         (try rw [← Nbq6.out] at hx207_4)
         (try rw [← Nbq6.out] at hx207_5)
         (try rw [← Nbq6.out] at hx207_6)
         cases e207
         replace hx207_0 := (HB.out.cell (World.block_lt_of_cell? w _ hx207_0)).trans hx207_0
         replace hx207_1 := (HB.out.cell (World.block_lt_of_cell? w _ hx207_1)).trans hx207_1
         replace hx207_2 := (HB.out.cell (World.block_lt_of_cell? w _ hx207_2)).trans hx207_2
         replace hx207_3 := (HB.out.cell (World.block_lt_of_cell? w _ hx207_3)).trans hx207_3
         replace hx207_4 := (HB.out.cell (World.block_lt_of_cell? w _ hx207_4)).trans hx207_4
         replace hx207_5 := (HB.out.cell (World.block_lt_of_cell? w _ hx207_5)).trans hx207_5
         replace hx207_6 := (HB.out.cell (World.block_lt_of_cell? w _ hx207_6)).trans hx207_6
         replace p207 := eq_true p207
         replace q207 := eq_true q207
         go_wp2_with (first | ((with_reducible refine gate_dst (N := 7) rfl ?_); refine box_event ?hg (N := 7) ?hd (cs := #[.string (⟨#[]⟩ : ByteArray), .int .i64 0, .int .i64 0, .int .i64 0, .bool false, .bool false, .bool false]) (t := 86) ?hr ?_; (case hd => rfl); (case hg => rfl); (case hr => first | (go_simp; done) | (go_simp; rfl)); intro gb208 hg w17 hbox hb; have n0_ := Aside0.mk (Kd.R_below kz9_7 hb); have n1_ := Aside0.mk (below_step kz9_2 hb); have n2_ := Aside0.mk (hbox); have n3_ := Aside0.mk ((by rw [hg]; exact (below_size kz9_2) : w.heap.size ≤ gb208)); have n4_ := Aside0.mk ((by rw [hg]; exact (below_size kz9_2) : w.heap.size ≤ gb208)); clear HO_5; clear HB; have HO_5 := n0_; have HB := n1_; have BK208 := n2_; have GW208 := n3_; have GE208 := n4_; clear n0_ n1_ n2_ n3_ n4_; clear hb hbox hg; have hcz18_0 : w17.cell? ⟨gb208, 0, none⟩ = some (.string (⟨#[]⟩ : ByteArray)) := (blk_cell BK208.out 0).trans rfl; have hcz18_1 : w17.cell? ⟨gb208, 1, none⟩ = some (.int .i64 0) := (blk_cell BK208.out 1).trans rfl; have hcz18_2 : w17.cell? ⟨gb208, 2, none⟩ = some (.int .i64 0) := (blk_cell BK208.out 2).trans rfl; have hcz18_3 : w17.cell? ⟨gb208, 3, none⟩ = some (.int .i64 0) := (blk_cell BK208.out 3).trans rfl; have hcz18_4 : w17.cell? ⟨gb208, 4, none⟩ = some (.bool false) := (blk_cell BK208.out 4).trans rfl; have hcz18_5 : w17.cell? ⟨gb208, 5, none⟩ = some (.bool false) := (blk_cell BK208.out 5).trans rfl; have hcz18_6 : w17.cell? ⟨gb208, 6, none⟩ = some (.bool false) := (blk_cell BK208.out 6).trans rfl; have hfz18_0 := blk_frozen BK208.out 0; have hfz18_1 := blk_frozen BK208.out 1; have hfz18_2 := blk_frozen BK208.out 2; have hfz18_3 := blk_frozen BK208.out 3; have hfz18_4 := blk_frozen BK208.out 4; have hfz18_5 := blk_frozen BK208.out 5; have hfz18_6 := blk_frozen BK208.out 6) | (go_at_call 84; (with_reducible refine (slices_Contains_int_int.calls k1 _ _ l1 x10_1 true _ ?side1 ?side2 A8.out).mono ?_); (case side1 => exact Kd.C_below HR1.out kz9_3); (case side2 => exact HC1.out); rintro e w' ⟨rfl, ⟨nd, rfl⟩⟩) | (go_at_call 80; (with_reducible refine (tree_Formed.calls k1 _ _ l0 false _ ?side1 ?side2 A10.out).mono ?_); (case side1 => exact Kd.C_below HR0.out kz9_3); (case side2 => exact HC0.out); rintro e w19 ⟨rfl, hb⟩; have n0_ := Aside0.mk (Kd.R_below kz9_5 hb); have n1_ := Aside0.mk (blk_below (g := gb208) (o := .cells #[.string ((rd_T86 l0 x10_1).f0), .int .i64 ((rd_T86 l0 x10_1).f1), .int .i64 ((rd_T86 l0 x10_1).f2), .int .i64 ((rd_T86 l0 x10_1).f3), .bool ((rd_T86 l0 x10_1).f4), .bool ((rd_T86 l0 x10_1).f5), .bool true] 86 (0, 0)) kz9_1 hb); have n2_ := Aside0.mk (below_step kz9_3 hb); clear HO_5; clear BK208; clear HB; have HO_5 := n0_; have BK208 := n1_; have HB := n2_; clear n0_ n1_ n2_; (try clear hb); (try clear hb2); (try clear hk); (try clear hi)))
         go_roundg k1
         case measure => have := HK1.out; omega
         case rel => exact ⟨(x5_1), (wrap64 (x10_1 + 1)), kz9_8, H', ⟨by have := HK1.out; omega⟩, ⟨by (with_reducible repeat (first | apply Kd.R_alloc | apply Kd.R_drewN | apply Kd.R_drew)); exact HO_5.out⟩, ⟨by repeat (first | (with_reducible first | exact HB.out | apply below_alloc | apply pw_below_drewN | apply below_drew1 | refine below_set ?_ GE208.out) | exact HB.out)⟩⟩
       ·replace c9 := Bool.eq_false_iff.mpr c9
        subst c9
        have H1 : (config_Leaves.l0 k1 l0 l1 x5_1 l0 (l0.length : Int) (wrap64 (x10_1 + 1))) = some r := by rw [if_neg (show ¬ (false = true) by decide)] at H; exact H
        clear H
        have H := H1
        clear H1
        have H' := Aside0.mk H
        clear H
        have p207 : 0 ≤ (x10_1 : Int) := of_decide_eq_true kz9_4
        have q207 : x10_1 < (l0.length : Int) := of_decide_eq_true kz9_4
        obtain ⟨ad207, e207, hx207_0, hx207_1, hx207_2, hx207_3, hx207_4, hx207_5, hx207_6⟩ := at_T86 HR0.out x10_1 p207 q207
        (try rw [← Nbq6.out] at hx207_4)
        (try rw [← Nbq6.out] at hx207_5)
        (try rw [← Nbq6.out] at hx207_6)
        cases e207
        replace hx207_0 := (HB.out.cell (World.block_lt_of_cell? w _ hx207_0)).trans hx207_0
        replace hx207_1 := (HB.out.cell (World.block_lt_of_cell? w _ hx207_1)).trans hx207_1
        replace hx207_2 := (HB.out.cell (World.block_lt_of_cell? w _ hx207_2)).trans hx207_2
        replace hx207_3 := (HB.out.cell (World.block_lt_of_cell? w _ hx207_3)).trans hx207_3
        replace hx207_4 := (HB.out.cell (World.block_lt_of_cell? w _ hx207_4)).trans hx207_4
        replace hx207_5 := (HB.out.cell (World.block_lt_of_cell? w _ hx207_5)).trans hx207_5
        replace hx207_6 := (HB.out.cell (World.block_lt_of_cell? w _ hx207_6)).trans hx207_6
        replace p207 := eq_true p207
        replace q207 := eq_true q207
        go_wp2_with (first | ((with_reducible refine gate_dst (N := 7) rfl ?_); refine box_event ?hg (N := 7) ?hd (cs := #[.string (⟨#[]⟩ : ByteArray), .int .i64 0, .int .i64 0, .int .i64 0, .bool false, .bool false, .bool false]) (t := 86) ?hr ?_; (case hd => rfl); (case hg => rfl); (case hr => first | (go_simp; done) | (go_simp; rfl)); intro gb208 hg w20 hbox hb; have n0_ := Aside0.mk (Kd.R_below kz9_7 hb); have n1_ := Aside0.mk (below_step kz9_2 hb); have n2_ := Aside0.mk (hbox); have n3_ := Aside0.mk ((by rw [hg]; exact (below_size kz9_2) : w.heap.size ≤ gb208)); have n4_ := Aside0.mk ((by rw [hg]; exact (below_size kz9_2) : w.heap.size ≤ gb208)); clear HO_5; clear HB; have HO_5 := n0_; have HB := n1_; have BK208 := n2_; have GW208 := n3_; have GE208 := n4_; clear n0_ n1_ n2_ n3_ n4_; clear hb hbox hg; have hcz21_0 : w20.cell? ⟨gb208, 0, none⟩ = some (.string (⟨#[]⟩ : ByteArray)) := (blk_cell BK208.out 0).trans rfl; have hcz21_1 : w20.cell? ⟨gb208, 1, none⟩ = some (.int .i64 0) := (blk_cell BK208.out 1).trans rfl; have hcz21_2 : w20.cell? ⟨gb208, 2, none⟩ = some (.int .i64 0) := (blk_cell BK208.out 2).trans rfl; have hcz21_3 : w20.cell? ⟨gb208, 3, none⟩ = some (.int .i64 0) := (blk_cell BK208.out 3).trans rfl; have hcz21_4 : w20.cell? ⟨gb208, 4, none⟩ = some (.bool false) := (blk_cell BK208.out 4).trans rfl; have hcz21_5 : w20.cell? ⟨gb208, 5, none⟩ = some (.bool false) := (blk_cell BK208.out 5).trans rfl; have hcz21_6 : w20.cell? ⟨gb208, 6, none⟩ = some (.bool false) := (blk_cell BK208.out 6).trans rfl; have hfz21_0 := blk_frozen BK208.out 0; have hfz21_1 := blk_frozen BK208.out 1; have hfz21_2 := blk_frozen BK208.out 2; have hfz21_3 := blk_frozen BK208.out 3; have hfz21_4 := blk_frozen BK208.out 4; have hfz21_5 := blk_frozen BK208.out 5; have hfz21_6 := blk_frozen BK208.out 6) | (go_at_call 84; (with_reducible refine (slices_Contains_int_int.calls k1 _ _ l1 x10_1 false _ ?side1 ?side2 A8.out).mono ?_); (case side1 => exact Kd.C_below HR1.out kz9_3); (case side2 => exact HC1.out); rintro e w' ⟨rfl, ⟨nd, rfl⟩⟩))
        go_roundg k1
        case measure => have := HK1.out; omega
        case rel => exact ⟨(x5_1), (wrap64 (x10_1 + 1)), kz9_8, H', ⟨by have := HK1.out; omega⟩, ⟨by (with_reducible repeat (first | apply Kd.R_alloc | apply Kd.R_drewN | apply Kd.R_drew)); exact Kd.R_mono (Kd.R_far (p := ⟨gb208, 6, none⟩) (Kd.R_far (p := ⟨gb208, 5, none⟩) (Kd.R_far (p := ⟨gb208, 4, none⟩) (Kd.R_far (p := ⟨gb208, 3, none⟩) (Kd.R_far (p := ⟨gb208, 2, none⟩) (Kd.R_far (p := ⟨gb208, 1, none⟩) (Kd.R_far (p := ⟨gb208, 0, none⟩) (Kd.R_types HO_5.out BK208.out (by decide)) (fun _ hk => hk.2) (.string ((rd_T86 l0 x10_1).f0))) (fun _ hk => hk.2) (.int .i64 ((rd_T86 l0 x10_1).f1))) (fun _ hk => hk.2) (.int .i64 ((rd_T86 l0 x10_1).f2))) (fun _ hk => hk.2) (.int .i64 ((rd_T86 l0 x10_1).f3))) (fun _ hk => hk.2) (.bool ((rd_T86 l0 x10_1).f4))) (fun _ hk => hk.2) (.bool ((rd_T86 l0 x10_1).f5))) (fun _ hk => hk.2) (.bool true)) (fun _ hk => trivial)⟩, ⟨by repeat (first | (with_reducible first | exact HB.out | apply below_alloc | apply pw_below_drewN | apply below_drew1 | refine below_set ?_ GE208.out) | exact HB.out)⟩⟩
      ·replace c7 := Bool.eq_false_iff.mpr c7
       subst c7
       have H1 : (config_Leaves.l0 k1 l0 l1 x5_1 l0 (l0.length : Int) (wrap64 (x10_1 + 1))) = some r := by rw [if_neg (show ¬ (false = true) by decide)] at H; exact H
       clear H
       have H := H1
       clear H1
       have H' := Aside0.mk H
       clear H
       have p207 : 0 ≤ (x10_1 : Int) := of_decide_eq_true kz9_4
       have q207 : x10_1 < (l0.length : Int) := of_decide_eq_true kz9_4
       obtain ⟨ad207, e207, hx207_0, hx207_1, hx207_2, hx207_3, hx207_4, hx207_5, hx207_6⟩ := at_T86 HR0.out x10_1 p207 q207
       (try rw [← Nbq6.out] at hx207_4)
       (try rw [← Nbq6.out] at hx207_5)
       (try rw [← Nbq6.out] at hx207_6)
       cases e207
       replace hx207_0 := (HB.out.cell (World.block_lt_of_cell? w _ hx207_0)).trans hx207_0
       replace hx207_1 := (HB.out.cell (World.block_lt_of_cell? w _ hx207_1)).trans hx207_1
       replace hx207_2 := (HB.out.cell (World.block_lt_of_cell? w _ hx207_2)).trans hx207_2
       replace hx207_3 := (HB.out.cell (World.block_lt_of_cell? w _ hx207_3)).trans hx207_3
       replace hx207_4 := (HB.out.cell (World.block_lt_of_cell? w _ hx207_4)).trans hx207_4
       replace hx207_5 := (HB.out.cell (World.block_lt_of_cell? w _ hx207_5)).trans hx207_5
       replace hx207_6 := (HB.out.cell (World.block_lt_of_cell? w _ hx207_6)).trans hx207_6
       replace p207 := eq_true p207
       replace q207 := eq_true q207
       go_wp2_with (first | ((with_reducible refine gate_dst (N := 7) rfl ?_); refine box_event ?hg (N := 7) ?hd (cs := #[.string (⟨#[]⟩ : ByteArray), .int .i64 0, .int .i64 0, .int .i64 0, .bool false, .bool false, .bool false]) (t := 86) ?hr ?_; (case hd => rfl); (case hg => rfl); (case hr => first | (go_simp; done) | (go_simp; rfl)); intro gb208 hg w22 hbox hb; have n0_ := Aside0.mk (Kd.R_below kz9_7 hb); have n1_ := Aside0.mk (below_step kz9_2 hb); have n2_ := Aside0.mk (hbox); have n3_ := Aside0.mk ((by rw [hg]; exact (below_size kz9_2) : w.heap.size ≤ gb208)); have n4_ := Aside0.mk ((by rw [hg]; exact (below_size kz9_2) : w.heap.size ≤ gb208)); clear HO_5; clear HB; have HO_5 := n0_; have HB := n1_; have BK208 := n2_; have GW208 := n3_; have GE208 := n4_; clear n0_ n1_ n2_ n3_ n4_; clear hb hbox hg; have hcz23_0 : w22.cell? ⟨gb208, 0, none⟩ = some (.string (⟨#[]⟩ : ByteArray)) := (blk_cell BK208.out 0).trans rfl; have hcz23_1 : w22.cell? ⟨gb208, 1, none⟩ = some (.int .i64 0) := (blk_cell BK208.out 1).trans rfl; have hcz23_2 : w22.cell? ⟨gb208, 2, none⟩ = some (.int .i64 0) := (blk_cell BK208.out 2).trans rfl; have hcz23_3 : w22.cell? ⟨gb208, 3, none⟩ = some (.int .i64 0) := (blk_cell BK208.out 3).trans rfl; have hcz23_4 : w22.cell? ⟨gb208, 4, none⟩ = some (.bool false) := (blk_cell BK208.out 4).trans rfl; have hcz23_5 : w22.cell? ⟨gb208, 5, none⟩ = some (.bool false) := (blk_cell BK208.out 5).trans rfl; have hcz23_6 : w22.cell? ⟨gb208, 6, none⟩ = some (.bool false) := (blk_cell BK208.out 6).trans rfl; have hfz23_0 := blk_frozen BK208.out 0; have hfz23_1 := blk_frozen BK208.out 1; have hfz23_2 := blk_frozen BK208.out 2; have hfz23_3 := blk_frozen BK208.out 3; have hfz23_4 := blk_frozen BK208.out 4; have hfz23_5 := blk_frozen BK208.out 5; have hfz23_6 := blk_frozen BK208.out 6))
       go_roundg k1
       case measure => have := HK1.out; omega
       case rel => exact ⟨(x5_1), (wrap64 (x10_1 + 1)), kz9_8, H', ⟨by have := HK1.out; omega⟩, ⟨by (with_reducible repeat (first | apply Kd.R_alloc | apply Kd.R_drewN | apply Kd.R_drew)); exact Kd.R_mono (Kd.R_far (p := ⟨gb208, 6, none⟩) (Kd.R_far (p := ⟨gb208, 5, none⟩) (Kd.R_far (p := ⟨gb208, 4, none⟩) (Kd.R_far (p := ⟨gb208, 3, none⟩) (Kd.R_far (p := ⟨gb208, 2, none⟩) (Kd.R_far (p := ⟨gb208, 1, none⟩) (Kd.R_far (p := ⟨gb208, 0, none⟩) (Kd.R_types HO_5.out BK208.out (by decide)) (fun _ hk => hk.2) (.string ((rd_T86 l0 x10_1).f0))) (fun _ hk => hk.2) (.int .i64 ((rd_T86 l0 x10_1).f1))) (fun _ hk => hk.2) (.int .i64 ((rd_T86 l0 x10_1).f2))) (fun _ hk => hk.2) (.int .i64 ((rd_T86 l0 x10_1).f3))) (fun _ hk => hk.2) (.bool ((rd_T86 l0 x10_1).f4))) (fun _ hk => hk.2) (.bool ((rd_T86 l0 x10_1).f5))) (fun _ hk => hk.2) (.bool false)) (fun _ hk => trivial)⟩, ⟨by repeat (first | (with_reducible first | exact HB.out | apply below_alloc | apply pw_below_drewN | apply below_drew1 | refine below_set ?_ GE208.out) | exact HB.out)⟩⟩
     ·rw [if_neg c5] at H
      exact absurd H (by simp)
    ·rw [if_neg c4] at H
     exact absurd H (by simp)
   ·rw [if_neg c3] at H
    have c3b0 : decide (x10_1 < (l0.length : Int)) = false := decide_eq_false c3
    clear c3
    obtain rfl := Option.some.inj H
    go_wp2
    go_ret
    exact ⟨_, by first | rfl | (simp [errW_none, errW_some] <;> rfl) | (simp [*, errW_none, errW_some] <;> rfl), by (with_reducible repeat (first | apply Kd.R_alloc | apply Kd.R_drewN | apply Kd.R_drew)); exact HO_5.out, by repeat (first | (with_reducible first | exact HB.out | apply below_alloc | apply pw_below_drewN | apply below_drew1) | exact HB.out)⟩

/-! ### config_Over: function 46 -/
def config_Over.l0 : Nat → List (S86) → List Int → Int → Int → Option (Bool)
 | 0, _, _, _, _ => none
 | k + 1, x0, x18, x19, x20 => if x20 < x19 then (if 0 ≤ x20 then (if x20 < (x18.length : Int) then (if 0 ≤ (rd x18 x20) then (if (rd x18 x20) < (x0.length : Int) then (if (rd_T86 x0 (rd x18 x20)).f5 = true then (config_Over.l0 k x0 x18 x19 (wrap64 (x20 + 1))) else (some false)) else (none)) else (none)) else (none)) else (none)) else (some true)
def config_Over.f (k : Nat) (l0 : List (S86)) (l1 : List Int) : Option (Bool) := (config_Leaves.f k l0 l1).bind fun t214 => (if (t214.length : Int) > 0 then (config_Over.l0 k l0 t214 (t214.length : Int) 0) else (some false))
theorem config_Over.mono_l : ∀ k, (∀ y0 y1 y2 y3, LeO (config_Over.l0 k y0 y1 y2 y3) (config_Over.l0 (k + 1) y0 y1 y2 y3))
 | 0 => fun _ _ _ _ r h => by simp [config_Over.l0] at h
 | k + 1 => by
  have ih0 := config_Over.mono_l k
  ·intro y0 y1 y2 y3
   unfold config_Over.l0
   repeat' first
   | (with_reducible exact ih0 _ _ _ _)
   | (with_reducible exact config_Leaves.mono _ _ _)
   | (with_reducible exact LeO.refl _)
   | (with_reducible exact LeO.none _)
   | (with_reducible refine LeO.ite ?_ ?_)
   | (with_reducible refine LeO.bind ?_ (fun _ => ?_))
   | exact ih0 _ _ _ _
   | exact config_Leaves.mono _ _ _
   | exact LeO.none _
   | refine LeO.ite ?_ ?_
   | refine LeO.bind ?_ (fun _ => ?_)
theorem config_Over.mono : ∀ a0 a1 k, LeO (config_Over.f k a0 a1) (config_Over.f (k + 1) a0 a1) := by
 intro a0 a1 k
 have ih0 := config_Over.mono_l k
 unfold config_Over.f
 repeat' first
   | (with_reducible exact ih0 _ _ _ _)
   | (with_reducible exact config_Leaves.mono _ _ _)
   | (with_reducible exact LeO.refl _)
   | (with_reducible exact LeO.none _)
   | (with_reducible refine LeO.ite ?_ ?_)
   | (with_reducible refine LeO.bind ?_ (fun _ => ?_))
   | exact ih0 _ _ _ _
   | exact config_Leaves.mono _ _ _
   | exact LeO.none _
   | refine LeO.ite ?_ ?_
   | refine LeO.bind ?_ (fun _ => ?_)
set_option maxHeartbeats 2000000 in
set_option maxRecDepth 100000 in
theorem config_Over.clo (l : List S86) (A : Option Addr) (c : Nat) (i : Int) (h0 : 0 ≤ i) (h1 : i < (l.length : Int)) (bx : Nat) (w : World) (hC : Kd.C k86 w A l.length l) (hbx : w.heap[bx]? = some (.cells #[.slice A l.length c] 43 (0, 0))) :
  Calls Try.prog 91 #[.int .i64 i, .pointer (some ⟨bx, 0, none⟩)] w fun e w' => e = .returned (.bool (!(rd_T86 l i).f5)) ∧ Below w.heap.size w w' := by
 have cbx := box_cell_ hbx (Below.refl _ _)
 obtain ⟨ad1, e1, x0, x1, x2, x3, x4, x5, x6⟩ := at_T86 hC i h0 h1
 cases e1
 obtain ⟨x, hx⟩ : ∃ x, rd_T86 l i = x := ⟨_, rfl⟩
 rw [hx] at x0 x1 x2 x3 x4 x5 x6 ⊢
 clear hx
 skip
 all_goals
  go_enter Try.func91, Try.ntmps91
  go_wp2
  repeat (go_quiet (fail); try go_wp2)
  go_ret
  exact ⟨rfl, by repeat (first | exact Below.refl _ _ | apply below_alloc | apply pw_below_drewN | apply below_drew)⟩
set_option maxHeartbeats 4000000 in
set_option maxRecDepth 100000 in
theorem config_Over.idx (k : Nat) (l : List S86) (row : List Int) (A B : Option Addr) (c d bx : Nat) (w : World) (hC : Kd.C k86 w A l.length l) (hR : Kd.C (Kd.int .i64) w B row.length row) (hbx : w.heap[bx]? = some (.cells #[.slice A l.length c] 43 (0, 0))) (r : Bool) (h : config_Over.l0 k l row (row.length : Int) 0 = some r) :
  Calls Try.prog 114 #[.slice B row.length d, .func (.func 91) #[] #[.pointer (some ⟨bx, 0, none⟩)]] w fun e w' => ∃ j : Int, e = .returned (.int .i64 j) ∧ decide (0 ≤ j) = !r ∧ Below w.heap.size w w' := by
 have hC' := Aside0.mk hC
 have hR' := Aside0.mk hR
 have hbx' := Aside0.mk hbx
 have h' := Aside0.mk h
 clear hC hR hbx h
 go_enter Try.func114, Try.ntmps114
 go_wp2_with fail
 go_loopg [8] k (fun kq v8 w' => ∃ i : Int, v8 = .int .i64 i ∧ Aside0 (config_Over.l0 kq l row (row.length : Int) i = some r) ∧ Aside0 (kq ≤ k) ∧ Aside0 (Below w.heap.size w w'))
 case atStart => exact ⟨0, rfl, h', ⟨Nat.le_refl _⟩, ⟨Below.refl _ _⟩⟩
 case round =>
  obtain ⟨i, rfl, HA, HK1, HB⟩ := hrel
  clear h'
  cases gk with
  | zero => exact absurd HA.out (by simp [config_Over.l0])
  | succ k1 =>
   have H := HA.out
   clear HA
   simp only [config_Over.l0] at H
   by_cases c1 : i < (row.length : Int)
   ·rw [if_pos c1] at H
    have c1b0 : decide (i < (row.length : Int)) = true := decide_eq_true c1
    by_cases c2 : 0 ≤ i
    ·rw [if_pos c2, if_pos c1] at H
     have c2b0 : decide (0 ≤ i) = true := decide_eq_true c2
     by_cases c3 : 0 ≤ rd row i
     ·rw [if_pos c3] at H
      by_cases c4 : rd row i < (l.length : Int)
      ·rw [if_pos c4] at H
       have hcl := Aside0.mk (config_Over.clo l A c (rd row i) c3 c4 bx wr (Kd.C_below hC'.out HB.out) (blk_below hbx'.out HB.out))
       obtain ⟨ad1, e1, hx1⟩ := Kd.at_int (Kd.C_below hR'.out HB.out) i c2 c1
       cases e1
       obtain ⟨q, hq⟩ : ∃ q, rd row i = q := ⟨_, rfl⟩
       rw [hq] at hcl hx1 H
       clear c3 c4 hq
       by_cases c5 : (rd_T86 l q).f5 = true
       ·rw [if_pos c5] at H
        have H' := Aside0.mk H
        have hcl' : Aside0 (Calls Try.prog 91 #[.int .i64 q, .pointer (some ⟨bx, 0, none⟩)] wr fun e w' => e = .returned (.bool false) ∧ Below wr.heap.size wr w') := ⟨by have h2 := hcl.out; rw [show (!(rd_T86 l q).f5) = false from by rw [c5]; rfl] at h2; exact h2⟩
        have c2' := eq_true c2
        have c1' := eq_true c1
        clear H hcl c5 c1 c2
        go_wp2_with (first
         | (go_at_call 91; (with_reducible refine hcl'.out.mono ?_); rintro e w1 ⟨rfl, hb1⟩; have HB1 : Aside0 (Below w.heap.size w w1) := ⟨below_step HB.out hb1⟩; clear hb1)
         | fail)
        go_roundg k1
        case measure => have := HK1.out; omega
        case rel => exact ⟨(wrap64 (i + 1)), kz9_8, H', ⟨by have := HK1.out; omega⟩, HB1⟩
       ·rw [if_neg c5] at H
        obtain rfl := Option.some.inj H
        have hcl' : Aside0 (Calls Try.prog 91 #[.int .i64 q, .pointer (some ⟨bx, 0, none⟩)] wr fun e w' => e = .returned (.bool true) ∧ Below wr.heap.size wr w') := ⟨by have h2 := hcl.out; rw [show (!(rd_T86 l q).f5) = true from by rw [Bool.eq_false_iff.mpr c5]; rfl] at h2; exact h2⟩
        have c2'' := Aside0.mk c2
        have c2' := eq_true c2
        have c1' := eq_true c1
        clear H hcl c5 c1 c2
        go_wp2_with (first
         | (go_at_call 91; (with_reducible refine hcl'.out.mono ?_); rintro e w1 ⟨rfl, hb1⟩; have HB1 : Aside0 (Below w.heap.size w w1) := ⟨below_step HB.out hb1⟩; clear hb1)
         | fail)
        go_ret
        exact ⟨_, rfl, by simp [c2''.out], HB1.out⟩
      ·rw [if_neg c4] at H
       exact absurd H (by simp)
     ·rw [if_neg c3] at H
      exact absurd H (by simp)
    ·rw [if_neg c2] at H
     exact absurd H (by simp)
   ·rw [if_neg c1] at H
    have c1b0 : decide (i < (row.length : Int)) = false := decide_eq_false c1
    obtain rfl := Option.some.inj H
    clear H c1
    go_wp2_with fail
    go_ret
    exact ⟨_, rfl, by decide, HB.out⟩
set_option maxHeartbeats 4000000 in
set_option maxRecDepth 100000 in
theorem config_Over.con (k : Nat) (l : List S86) (row : List Int) (A B : Option Addr) (c d bx : Nat) (w : World) (hC : Kd.C k86 w A l.length l) (hR : Kd.C (Kd.int .i64) w B row.length row) (hbx : w.heap[bx]? = some (.cells #[.slice A l.length c] 43 (0, 0))) (r : Bool) (h : config_Over.l0 k l row (row.length : Int) 0 = some r) :
  Calls Try.prog 90 #[.slice B row.length d, .func (.func 91) #[] #[.pointer (some ⟨bx, 0, none⟩)]] w fun e w' => e = .returned (.bool (!r)) ∧ Below w.heap.size w w' := by
 have hI := Aside0.mk (config_Over.idx k l row A B c d bx w hC hR hbx r h)
 clear h hC hR hbx
 go_enter Try.func90, Try.ntmps90
 go_wp2_with (first | (go_at_call 114; (with_reducible refine hI.out.mono ?_); rintro e w1 ⟨j, rfl, hj, hb⟩; have hj' := Aside0.mk hj; have hb' := Aside0.mk hb; clear hj hb) | fail)
 go_ret
 exact ⟨by rw [← hj'.out]; rfl, hb'.out⟩
set_option maxHeartbeats 8000000 in
set_option maxRecDepth 100000 in
theorem config_Over.calls (k : Nat) (A0 : Option Addr) (c0 : Nat) (l0 : List (S86)) (A1 : Option Addr) (c1 : Nat) (l1 : List Int) (r : Bool) (w : World) (hr0 : Kd.C k86 w A0 l0.length l0) (hc0 : l0.length ≤ c0) (hr1 : Kd.C (Kd.int .i64) w A1 l1.length l1) (hc1 : l1.length ≤ c1) (h : config_Over.f k l0 l1 = some r) :
  Calls Try.prog 46 #[.slice A0 l0.length c0, .slice A1 l1.length c1] w fun e w' => e = .returned (.bool r) ∧ Below w.heap.size w w' := by
 unfold config_Over.f at h
 obtain ⟨t, hL, h⟩ := Option.bind_eq_some_iff.mp h
 obtain ⟨W1_, hW1_⟩ : ∃ W, w.alloc (.cells #[.slice A0 l0.length c0] 43) = W := ⟨_, rfl⟩
 have hbw_ : Below w.heap.size w W1_ := by rw [← hW1_]; exact below_alloc (Below.refl _ _) _
 obtain ⟨bx_, hbe_⟩ : ∃ b, w.heap.size = b := ⟨_, rfl⟩
 have hbx_ : Aside0 (W1_.heap[bx_]? = some (.cells #[.slice A0 l0.length c0] 43 (0, 0))) := ⟨by rw [← hW1_, ← hbe_]; exact blk_new _ _⟩
 refine Calls.mono (R := fun e w' => e = .returned (.bool r) ∧ Below W1_.heap.size W1_ w') ?_ (fun e w' h => ⟨h.1, below_step hbw_ h.2⟩)
 have hcL := Aside0.mk (config_Leaves.calls k A0 c0 l0 A1 c1 l1 t W1_ (Kd.C_below hr0 hbw_) hc0 (Kd.C_below hr1 hbw_) hc1 hL)
 have hC0' := Aside0.mk (Kd.C_below hr0 hbw_)
 have hbw2_ := Aside0.mk hbw_
 clear hr0 hr1 hc0 hc1 hL hbw_
 by_cases ht : (t.length : Int) > 0
 ·rw [if_pos ht] at h
  have h' := Aside0.mk h
  have d0 : decide (0 < (t.length : Int)) = true := decide_eq_true ht
  have d1 : decide (0 < t.length) = true := decide_eq_true (by omega)
  clear h ht
  go_enter Try.func46, Try.ntmps46
  go_upto_region 1 with fail
  clear hW1_
  have cbx_ := box_cell_ hbx_.out (Below.refl _ _)
  go_wp2_with (first
   | (go_at_call 55; (with_reducible refine hcL.out.mono ?_); rintro e w2 ⟨v, rfl, hR, hb2⟩; obtain ⟨A2, c2, rfl, hc2, hC2⟩ := Kd.R_reads hR; have HB2 := Aside0.mk hb2; have hcon := Aside0.mk (config_Over.con k l0 t A0 A2 c0 c2 bx_ w2 (Kd.C_below hC0'.out hb2) hC2 (blk_below hbx_.out hb2) r h'.out); clear hR hb2 hC2)
   | (go_at_call 90; (with_reducible refine hcon.out.mono ?_); rintro e w5 ⟨rfl, hb5⟩; have HB5 := Aside0.mk (below_step HB2.out hb5); clear hb5)
   | fail)
  go_ret
  exact ⟨by simp, HB5.out⟩
 ·rw [if_neg ht] at h
  obtain rfl := Option.some.inj h
  have d0 : decide (0 < (t.length : Int)) = false := decide_eq_false ht
  have d1 : decide (0 < t.length) = false := decide_eq_false (by omega)
  clear h ht
  go_enter Try.func46, Try.ntmps46
  go_upto_region 1 with fail
  clear hW1_
  have cbx_ := box_cell_ hbx_.out (Below.refl _ _)
  go_wp2_with (first
   | (go_at_call 55; (with_reducible refine hcL.out.mono ?_); rintro e w2 ⟨v, rfl, hR, hb2⟩; obtain ⟨A2, c2, rfl, hc2, hC2⟩ := Kd.R_reads hR; have HB2 := Aside0.mk hb2; clear hR hb2 hC2)
   | fail)
  go_ret
  exact ⟨rfl, HB2.out⟩

/-! ### tumbrelref09_Leaves: function 56 -/
def tumbrelref09_Leaves.l0 : Nat → List (S140) → List Int → List Int → Int → Int → Option (List Int)
 | 0, _, _, _, _, _ => none
 | k + 1, x0, x1, x5, x11, x12 => if x12 < x11 then ((tumbrelref09_has.f k x1 x12).bind fun t220 => (if t220 = true then (if 0 ≤ x12 then (if x12 < (x0.length : Int) then (if (rd_T140 x0 x12).f6 = true then (if x5.length < 17592186044416 then (tumbrelref09_Leaves.l0 k x0 x1 (x5 ++ [x12]) x11 (wrap64 (x12 + 1))) else (none)) else (tumbrelref09_Leaves.l0 k x0 x1 x5 x11 (wrap64 (x12 + 1)))) else (none)) else (none)) else (tumbrelref09_Leaves.l0 k x0 x1 x5 x11 (wrap64 (x12 + 1))))) else (some x5)
def tumbrelref09_Leaves.f (k : Nat) (l0 : List (S140)) (l1 : List Int) : Option (List Int) := (tumbrelref09_Formed.f k l0).bind fun t219 => (if t219 = true then (tumbrelref09_Leaves.l0 k l0 l1 ([] : List Int) (l0.length : Int) 0) else (some ([] : List Int)))
theorem tumbrelref09_Leaves.mono_l : ∀ k, (∀ y0 y1 y2 y3 y4, LeO (tumbrelref09_Leaves.l0 k y0 y1 y2 y3 y4) (tumbrelref09_Leaves.l0 (k + 1) y0 y1 y2 y3 y4))
 | 0 => fun _ _ _ _ _ r h => by simp [tumbrelref09_Leaves.l0] at h
 | k + 1 => by
  have ih0 := tumbrelref09_Leaves.mono_l k
  ·intro y0 y1 y2 y3 y4
   unfold tumbrelref09_Leaves.l0
   repeat' first
   | (with_reducible exact ih0 _ _ _ _ _)
   | (with_reducible exact tumbrelref09_Formed.mono _ _)
   | (with_reducible exact tumbrelref09_has.mono _ _ _)
   | (with_reducible exact LeO.refl _)
   | (with_reducible exact LeO.none _)
   | (with_reducible refine LeO.ite ?_ ?_)
   | (with_reducible refine LeO.bind ?_ (fun _ => ?_))
   | exact ih0 _ _ _ _ _
   | exact tumbrelref09_Formed.mono _ _
   | exact tumbrelref09_has.mono _ _ _
   | exact LeO.none _
   | refine LeO.ite ?_ ?_
   | refine LeO.bind ?_ (fun _ => ?_)
theorem tumbrelref09_Leaves.mono : ∀ a0 a1 k, LeO (tumbrelref09_Leaves.f k a0 a1) (tumbrelref09_Leaves.f (k + 1) a0 a1) := by
 intro a0 a1 k
 have ih0 := tumbrelref09_Leaves.mono_l k
 unfold tumbrelref09_Leaves.f
 repeat' first
   | (with_reducible exact ih0 _ _ _ _ _)
   | (with_reducible exact tumbrelref09_Formed.mono _ _)
   | (with_reducible exact tumbrelref09_has.mono _ _ _)
   | (with_reducible exact LeO.refl _)
   | (with_reducible exact LeO.none _)
   | (with_reducible refine LeO.ite ?_ ?_)
   | (with_reducible refine LeO.bind ?_ (fun _ => ?_))
   | exact ih0 _ _ _ _ _
   | exact tumbrelref09_Formed.mono _ _
   | exact tumbrelref09_has.mono _ _ _
   | exact LeO.none _
   | refine LeO.ite ?_ ?_
   | refine LeO.bind ?_ (fun _ => ?_)
set_option maxHeartbeats 8000000 in
set_option maxRecDepth 100000 in
theorem tumbrelref09_Leaves.calls (k : Nat) (A0 : Option Addr) (c0 : Nat) (l0 : List (S140)) (A1 : Option Addr) (c1 : Nat) (l1 : List Int) (r : List Int) (w : World) (hr0 : Kd.C k140 w A0 l0.length l0) (hc0 : l0.length ≤ c0) (hr1 : Kd.C (Kd.int .i64) w A1 l1.length l1) (hc1 : l1.length ≤ c1) (h : tumbrelref09_Leaves.f k l0 l1 = some r) :
  Calls Try.prog 56 #[.slice A0 l0.length c0, .slice A1 l1.length c1] w fun e w' => ∃ v0_ : Value, e = .returned (v0_) ∧ Kd.R (Kd.int .i64) 3 w' w.heap.size (fun _ => True) v0_ r ∧ Below w.heap.size w w' := by
 have HR0 := Aside0.mk hr0
 have HC0 := Aside0.mk hc0
 clear hr0 hc0
 have HR1 := Aside0.mk hr1
 have HC1 := Aside0.mk hc1
 clear hr1 hc1
 have HB := Aside0.mk (Below.refl w.heap.size w)
 have H : ((tumbrelref09_Formed.f k l0).bind fun t219 => (if t219 = true then (tumbrelref09_Leaves.l0 k l0 l1 ([] : List Int) (l0.length : Int) 0) else (some ([] : List Int)))) = some r := h
 clear h
 replace H := Option.bind_eq_some_iff.mp H
 obtain ⟨t219, A30, H⟩ := H
 replace H : (if t219 = true then (tumbrelref09_Leaves.l0 k l0 l1 ([] : List Int) (l0.length : Int) 0) else (some ([] : List Int))) = some r := H
 have A3 := Aside0.mk A30
 clear A30
 by_cases c4 : t219 = true
 ·subst c4
  have H1 : (tumbrelref09_Leaves.l0 k l0 l1 ([] : List Int) (l0.length : Int) 0) = some r := by rw [if_pos rfl] at H; exact H
  clear H
  have H := H1
  clear H1
  have H' := Aside0.mk H
  clear H
  go_enter Try.func56, Try.ntmps56
  go_wp2_with (first | ((with_reducible refine gate_callee (f := 86) rfl ?_); refine goesL_ (some 8) rfl rfl Try.func86 (by kernel_rfl) rfl #[.slice A0 l0.length c0] rfl kz9_6 ?_; (with_reducible refine (tumbrelref09_Formed.calls k _ _ l0 true _ ?side1 ?side2 A3.out).mono ?_); (case side1 => repeat (first | exact HR0.out | (with_reducible refine Kd.C_alloc ?_ _) | (with_reducible refine Kd.C_drewN ?_ _) | (with_reducible refine Kd.C_drew ?_))); (case side2 => exact HC0.out); rintro e w' ⟨rfl, ⟨nd, rfl⟩⟩; refine ⟨_, rfl, ?_⟩))
  go_loopg [5, 12] k (fun kq v5 v12 w' => ∃ (x5_1 : List Int) (x12_1 : Int), v12 = .int .i64 x12_1 ∧ Aside0 (tumbrelref09_Leaves.l0 kq l0 l1 x5_1 (l0.length : Int) x12_1 = some r) ∧ Aside0 (kq ≤ k) ∧ Aside0 (Kd.R (Kd.int .i64) 3 w' w.heap.size (fun _ => True) v5 x5_1) ∧ Aside0 (Below w.heap.size w w'))
  case atStart => exact ⟨(([] : List Int)), (0), kz9_8, H', ⟨Nat.le_refl _⟩, ⟨by first | exact Kd.R_nil _ _ _ _ _ | exact Kd.N_nil _ _ _ _ _ | exact Kd.V_nil _ _ _ _ _ | exact Kd.Q_nil _ _ _ _ _ | exact Kd.S_nil _ _ _ _ _⟩, ⟨by repeat (first | (with_reducible first | exact HB.out | apply below_alloc | apply pw_below_drewN | apply below_drew1) | exact HB.out)⟩⟩
  case round =>
   clear H'
   try clear c1
   try clear p2
   try clear c4
   obtain ⟨x5_1, x12_1, rfl, HA, HK1, HO_5, HB⟩ := hrel
   cases gk with
   | zero => exact absurd HA.out (by simp [tumbrelref09_Leaves.l0])
   | succ k1 =>
    have H := HA.out
    clear HA
    simp only [tumbrelref09_Leaves.l0] at H
    by_cases c5 : x12_1 < (l0.length : Int)
    ·rw [if_pos c5] at H
     have c5b0 : decide (x12_1 < (l0.length : Int)) = true := decide_eq_true c5
     clear c5
     replace H := Option.bind_eq_some_iff.mp H
     obtain ⟨t220, A60, H⟩ := H
     replace H : (if t220 = true then (if 0 ≤ x12_1 then (if x12_1 < (l0.length : Int) then (if (rd_T140 l0 x12_1).f6 = true then (if x5_1.length < 17592186044416 then (tumbrelref09_Leaves.l0 k1 l0 l1 (x5_1 ++ [x12_1]) (l0.length : Int) (wrap64 (x12_1 + 1))) else (none)) else (tumbrelref09_Leaves.l0 k1 l0 l1 x5_1 (l0.length : Int) (wrap64 (x12_1 + 1)))) else (none)) else (none)) else (tumbrelref09_Leaves.l0 k1 l0 l1 x5_1 (l0.length : Int) (wrap64 (x12_1 + 1)))) = some r := H
     have A6 := Aside0.mk A60
     clear A60
     by_cases c7 : t220 = true
     ·subst c7
      have H1 : (if 0 ≤ x12_1 then (if x12_1 < (l0.length : Int) then (if (rd_T140 l0 x12_1).f6 = true then (if x5_1.length < 17592186044416 then (tumbrelref09_Leaves.l0 k1 l0 l1 (x5_1 ++ [x12_1]) (l0.length : Int) (wrap64 (x12_1 + 1))) else (none)) else (tumbrelref09_Leaves.l0 k1 l0 l1 x5_1 (l0.length : Int) (wrap64 (x12_1 + 1)))) else (none)) else (none)) = some r := by rw [if_pos rfl] at H; exact H
      clear H
      have H := H1
      clear H1
      by_cases c8 : 0 ≤ x12_1
      ·rw [if_pos c8] at H
       have c8b0 : decide (0 ≤ x12_1) = true := decide_eq_true c8
       clear c8
       by_cases c9 : x12_1 < (l0.length : Int)
       ·rw [if_pos c9] at H
        have c9b0 : decide (x12_1 < (l0.length : Int)) = true := decide_eq_true c9
        clear c9
        obtain ⟨bq10, hbq10⟩ : ∃ b_ : Bool, b_ = ((rd_T140 l0 x12_1).f6) := ⟨_, rfl⟩
        replace H : (if bq10 = true then (if x5_1.length < 17592186044416 then (tumbrelref09_Leaves.l0 k1 l0 l1 (x5_1 ++ [x12_1]) (l0.length : Int) (wrap64 (x12_1 + 1))) else (none)) else (tumbrelref09_Leaves.l0 k1 l0 l1 x5_1 (l0.length : Int) (wrap64 (x12_1 + 1)))) = some r := by rw [← hbq10] at H; exact H
        have Nbq10 := Aside0.mk hbq10
        clear hbq10
        by_cases c11 : bq10 = true
        ·subst c11
         have H1 : (if x5_1.length < 17592186044416 then (tumbrelref09_Leaves.l0 k1 l0 l1 (x5_1 ++ [x12_1]) (l0.length : Int) (wrap64 (x12_1 + 1))) else (none)) = some r := by rw [if_pos rfl] at H; exact H
         clear H
         have H := H1
         clear H1
         by_cases c12 : x5_1.length < 17592186044416
         ·rw [if_pos c12] at H
          have LMc12 := Aside0.mk c12
          clear c12
          obtain ⟨y222, hy222⟩ : ∃ y_ : List Int, y_ = (x5_1 ++ [x12_1]) := ⟨_, rfl⟩
          replace H : (tumbrelref09_Leaves.l0 k1 l0 l1 y222 (l0.length : Int) (wrap64 (x12_1 + 1))) = some r := by first | (rw [hy222]; with_reducible exact H) | (have H2_ := (Option.bind_some _ _).symm.trans H; rw [hy222]; with_reducible exact H2_) | (have H2_ := (Option.bind_some _ _).symm.trans H; with_reducible exact H2_) | with_reducible exact H | (rw [hy222]; exact H) | exact H
          have Ny222 := Aside0.mk hy222
          clear hy222
          have H' := Aside0.mk H
          clear H
          go_wp2_with (first | ((with_reducible refine gate_callee (f := 88) rfl ?_); refine goesL_ (some 17) rfl rfl Try.func88 (by kernel_rfl) rfl #[.slice A1 l1.length c1, .int .i64 x12_1] rfl kz9_6 ?_; (with_reducible refine (tumbrelref09_has.calls k1 _ _ l1 x12_1 true _ ?side1 ?side2 A6.out).mono ?_); (case side1 => repeat (first | exact (Kd.C_below HR1.out HB.out) | (with_reducible refine Kd.C_alloc ?_ _) | (with_reducible refine Kd.C_drewN ?_ _) | (with_reducible refine Kd.C_drew ?_))); (case side2 => exact HC1.out); rintro e w' ⟨rfl, ⟨nd, rfl⟩⟩; refine ⟨_, rfl, ?_⟩; have p221 : 0 ≤ (x12_1 : Int) := of_decide_eq_true kz9_4; have q221 : x12_1 < (l0.length : Int) := of_decide_eq_true kz9_4; obtain ⟨ad221, e221, hx221_0, hx221_1, hx221_2, hx221_3, hx221_4, hx221_5, hx221_6⟩ := at_T140 HR0.out x12_1 p221 q221; (try rw [← Nbq10.out] at hx221_4); (try rw [← Nbq10.out] at hx221_5); (try rw [← Nbq10.out] at hx221_6); cases e221; replace hx221_0 := (HB.out.cell (World.block_lt_of_cell? w _ hx221_0)).trans hx221_0; replace hx221_1 := (HB.out.cell (World.block_lt_of_cell? w _ hx221_1)).trans hx221_1; replace hx221_2 := (HB.out.cell (World.block_lt_of_cell? w _ hx221_2)).trans hx221_2; replace hx221_3 := (HB.out.cell (World.block_lt_of_cell? w _ hx221_3)).trans hx221_3; replace hx221_4 := (HB.out.cell (World.block_lt_of_cell? w _ hx221_4)).trans hx221_4; replace hx221_5 := (HB.out.cell (World.block_lt_of_cell? w _ hx221_5)).trans hx221_5; replace hx221_6 := (HB.out.cell (World.block_lt_of_cell? w _ hx221_6)).trans hx221_6; replace p221 := eq_true p221; replace q221 := eq_true q221) | ((with_reducible refine gate_builtin (b := .append) (xs := #[.tmp 25, .tmp 27]) rfl ?_); at_builtin; refine Kd.R_append (Kd.int .i64) (w0 := w) w.heap.size rfl (.tmp 25) (.tmp 27) 65 3 (.int .i64 0) 8 rfl Try.underlying65 info3 rfl (by decide) (by omega) u5 x5_1 x12_1 [.int .i64 x12_1] (fun _ => True) (fun _ => False) rfl rfl ?aP (fun _ hk => hk.elim) ?aF ?aO ?aB ?aS ?aL ?_; (case aP => exact rfl); (case aB => exact kz9_2); (case aF => exact (fun _ _ => trivial)); (case aO => exact kz9_7); (case aS => exact (below_size kz9_2)); (case aL => have := LMc12.out; omega); intro v223 w13 ho hb hg hat; rw [← Ny222.out] at ho; have n0_ := Aside0.mk (hb); have n1_ := Aside0.mk (ho); clear HB; clear HO_5; have HB := n0_; have HO224 := n1_; clear n0_ n1_; clear ho hb hg hat))
          go_roundg k1
          case measure => have := HK1.out; omega
          case rel => exact ⟨(y222), (wrap64 (x12_1 + 1)), kz9_8, H', ⟨by have := HK1.out; omega⟩, ⟨by (with_reducible repeat (first | apply Kd.R_alloc | apply Kd.R_drewN | apply Kd.R_drew)); exact HO224.out⟩, ⟨by repeat (first | (with_reducible first | exact HB.out | apply below_alloc | apply pw_below_drewN | apply below_drew1) | exact HB.out)⟩⟩
         ·rw [if_neg c12] at H
          exact absurd H (by simp)
        ·replace c11 := Bool.eq_false_iff.mpr c11
         subst c11
         have H1 : (tumbrelref09_Leaves.l0 k1 l0 l1 x5_1 (l0.length : Int) (wrap64 (x12_1 + 1))) = some r := by rw [if_neg (show ¬ (false = true) by decide)] at H; exact H
         clear H
         have H := H1
         clear H1
         have H' := Aside0.mk H
         clear H
         go_wp2_with (first | ((with_reducible refine gate_callee (f := 88) rfl ?_); refine goesL_ (some 17) rfl rfl Try.func88 (by kernel_rfl) rfl #[.slice A1 l1.length c1, .int .i64 x12_1] rfl kz9_6 ?_; (with_reducible refine (tumbrelref09_has.calls k1 _ _ l1 x12_1 true _ ?side1 ?side2 A6.out).mono ?_); (case side1 => repeat (first | exact (Kd.C_below HR1.out HB.out) | (with_reducible refine Kd.C_alloc ?_ _) | (with_reducible refine Kd.C_drewN ?_ _) | (with_reducible refine Kd.C_drew ?_))); (case side2 => exact HC1.out); rintro e w' ⟨rfl, ⟨nd, rfl⟩⟩; refine ⟨_, rfl, ?_⟩; have p221 : 0 ≤ (x12_1 : Int) := of_decide_eq_true kz9_4; have q221 : x12_1 < (l0.length : Int) := of_decide_eq_true kz9_4; obtain ⟨ad221, e221, hx221_0, hx221_1, hx221_2, hx221_3, hx221_4, hx221_5, hx221_6⟩ := at_T140 HR0.out x12_1 p221 q221; (try rw [← Nbq10.out] at hx221_4); (try rw [← Nbq10.out] at hx221_5); (try rw [← Nbq10.out] at hx221_6); cases e221; replace hx221_0 := (HB.out.cell (World.block_lt_of_cell? w _ hx221_0)).trans hx221_0; replace hx221_1 := (HB.out.cell (World.block_lt_of_cell? w _ hx221_1)).trans hx221_1; replace hx221_2 := (HB.out.cell (World.block_lt_of_cell? w _ hx221_2)).trans hx221_2; replace hx221_3 := (HB.out.cell (World.block_lt_of_cell? w _ hx221_3)).trans hx221_3; replace hx221_4 := (HB.out.cell (World.block_lt_of_cell? w _ hx221_4)).trans hx221_4; replace hx221_5 := (HB.out.cell (World.block_lt_of_cell? w _ hx221_5)).trans hx221_5; replace hx221_6 := (HB.out.cell (World.block_lt_of_cell? w _ hx221_6)).trans hx221_6; replace p221 := eq_true p221; replace q221 := eq_true q221))
         go_roundg k1
         case measure => have := HK1.out; omega
         case rel => exact ⟨(x5_1), (wrap64 (x12_1 + 1)), kz9_8, H', ⟨by have := HK1.out; omega⟩, ⟨by (with_reducible repeat (first | apply Kd.R_alloc | apply Kd.R_drewN | apply Kd.R_drew)); exact HO_5.out⟩, ⟨by repeat (first | (with_reducible first | exact HB.out | apply below_alloc | apply pw_below_drewN | apply below_drew1) | exact HB.out)⟩⟩
       ·rw [if_neg c9] at H
        exact absurd H (by simp)
      ·rw [if_neg c8] at H
       exact absurd H (by simp)
     ·replace c7 := Bool.eq_false_iff.mpr c7
      subst c7
      have H1 : (tumbrelref09_Leaves.l0 k1 l0 l1 x5_1 (l0.length : Int) (wrap64 (x12_1 + 1))) = some r := by rw [if_neg (show ¬ (false = true) by decide)] at H; exact H
      clear H
      have H := H1
      clear H1
      have H' := Aside0.mk H
      clear H
      go_wp2_with (first | ((with_reducible refine gate_callee (f := 88) rfl ?_); refine goesL_ (some 17) rfl rfl Try.func88 (by kernel_rfl) rfl #[.slice A1 l1.length c1, .int .i64 x12_1] rfl kz9_6 ?_; (with_reducible refine (tumbrelref09_has.calls k1 _ _ l1 x12_1 false _ ?side1 ?side2 A6.out).mono ?_); (case side1 => repeat (first | exact (Kd.C_below HR1.out HB.out) | (with_reducible refine Kd.C_alloc ?_ _) | (with_reducible refine Kd.C_drewN ?_ _) | (with_reducible refine Kd.C_drew ?_))); (case side2 => exact HC1.out); rintro e w' ⟨rfl, ⟨nd, rfl⟩⟩; refine ⟨_, rfl, ?_⟩))
      go_roundg k1
      case measure => have := HK1.out; omega
      case rel => exact ⟨(x5_1), (wrap64 (x12_1 + 1)), kz9_8, H', ⟨by have := HK1.out; omega⟩, ⟨by (with_reducible repeat (first | apply Kd.R_alloc | apply Kd.R_drewN | apply Kd.R_drew)); exact HO_5.out⟩, ⟨by repeat (first | (with_reducible first | exact HB.out | apply below_alloc | apply pw_below_drewN | apply below_drew1) | exact HB.out)⟩⟩
    ·rw [if_neg c5] at H
     have c5b0 : decide (x12_1 < (l0.length : Int)) = false := decide_eq_false c5
     clear c5
     obtain rfl := Option.some.inj H
     go_wp2
     go_ret
     exact ⟨_, by first | rfl | (simp [errW_none, errW_some] <;> rfl) | (simp [*, errW_none, errW_some] <;> rfl), by (with_reducible repeat (first | apply Kd.R_alloc | apply Kd.R_drewN | apply Kd.R_drew)); exact HO_5.out, by repeat (first | (with_reducible first | exact HB.out | apply below_alloc | apply pw_below_drewN | apply below_drew1) | exact HB.out)⟩
 ·replace c4 := Bool.eq_false_iff.mpr c4
  subst c4
  have H1 : (some ([] : List Int)) = some r := by rw [if_neg (show ¬ (false = true) by decide)] at H; exact H
  clear H
  have H := H1
  clear H1
  obtain rfl := Option.some.inj H
  go_enter Try.func56, Try.ntmps56
  go_wp2_with (first | ((with_reducible refine gate_callee (f := 86) rfl ?_); refine goesL_ (some 8) rfl rfl Try.func86 (by kernel_rfl) rfl #[.slice A0 l0.length c0] rfl kz9_6 ?_; (with_reducible refine (tumbrelref09_Formed.calls k _ _ l0 false _ ?side1 ?side2 A3.out).mono ?_); (case side1 => repeat (first | exact HR0.out | (with_reducible refine Kd.C_alloc ?_ _) | (with_reducible refine Kd.C_drewN ?_ _) | (with_reducible refine Kd.C_drew ?_))); (case side2 => exact HC0.out); rintro e w' ⟨rfl, ⟨nd, rfl⟩⟩; refine ⟨_, rfl, ?_⟩))
  go_ret
  exact ⟨_, by first | rfl | (simp [errW_none, errW_some] <;> rfl) | (simp [*, errW_none, errW_some] <;> rfl), by first | exact Kd.R_nil _ _ _ _ _ | exact Kd.N_nil _ _ _ _ _ | exact Kd.V_nil _ _ _ _ _ | exact Kd.Q_nil _ _ _ _ _ | exact Kd.S_nil _ _ _ _ _, by repeat (first | (with_reducible first | exact HB.out | apply below_alloc | apply pw_below_drewN | apply below_drew1) | exact HB.out)⟩

/-! ### tumbrelref09_Over: function 47 -/
def tumbrelref09_Over.l0 : Nat → List (S140) → List Int → Int → Int → Option (Bool)
 | 0, _, _, _, _ => none
 | k + 1, x0, x5, x11, x12 => if x12 < x11 then (if 0 ≤ x12 then (if x12 < (x5.length : Int) then (if 0 ≤ (rd x5 x12) then (if (rd x5 x12) < (x0.length : Int) then (if (rd_T140 x0 (rd x5 x12)).f5 = true then (tumbrelref09_Over.l0 k x0 x5 x11 (wrap64 (x12 + 1))) else (some false)) else (none)) else (none)) else (none)) else (none)) else (some (decide ((x5.length : Int) > 0)))
def tumbrelref09_Over.f (k : Nat) (l0 : List (S140)) (l1 : List Int) : Option (Bool) := (tumbrelref09_Leaves.f k l0 l1).bind fun t225 => (tumbrelref09_Over.l0 k l0 t225 (t225.length : Int) 0)
theorem tumbrelref09_Over.mono_l : ∀ k, (∀ y0 y1 y2 y3, LeO (tumbrelref09_Over.l0 k y0 y1 y2 y3) (tumbrelref09_Over.l0 (k + 1) y0 y1 y2 y3))
 | 0 => fun _ _ _ _ r h => by simp [tumbrelref09_Over.l0] at h
 | k + 1 => by
  have ih0 := tumbrelref09_Over.mono_l k
  ·intro y0 y1 y2 y3
   unfold tumbrelref09_Over.l0
   repeat' first
   | (with_reducible exact ih0 _ _ _ _)
   | (with_reducible exact tumbrelref09_Leaves.mono _ _ _)
   | (with_reducible exact LeO.refl _)
   | (with_reducible exact LeO.none _)
   | (with_reducible refine LeO.ite ?_ ?_)
   | (with_reducible refine LeO.bind ?_ (fun _ => ?_))
   | exact ih0 _ _ _ _
   | exact tumbrelref09_Leaves.mono _ _ _
   | exact LeO.none _
   | refine LeO.ite ?_ ?_
   | refine LeO.bind ?_ (fun _ => ?_)
theorem tumbrelref09_Over.mono : ∀ a0 a1 k, LeO (tumbrelref09_Over.f k a0 a1) (tumbrelref09_Over.f (k + 1) a0 a1) := by
 intro a0 a1 k
 have ih0 := tumbrelref09_Over.mono_l k
 unfold tumbrelref09_Over.f
 repeat' first
   | (with_reducible exact ih0 _ _ _ _)
   | (with_reducible exact tumbrelref09_Leaves.mono _ _ _)
   | (with_reducible exact LeO.refl _)
   | (with_reducible exact LeO.none _)
   | (with_reducible refine LeO.ite ?_ ?_)
   | (with_reducible refine LeO.bind ?_ (fun _ => ?_))
   | exact ih0 _ _ _ _
   | exact tumbrelref09_Leaves.mono _ _ _
   | exact LeO.none _
   | refine LeO.ite ?_ ?_
   | refine LeO.bind ?_ (fun _ => ?_)
set_option maxHeartbeats 8000000 in
set_option maxRecDepth 100000 in
theorem tumbrelref09_Over.calls (k : Nat) (A0 : Option Addr) (c0 : Nat) (l0 : List (S140)) (A1 : Option Addr) (c1 : Nat) (l1 : List Int) (r : Bool) (w : World) (hr0 : Kd.C k140 w A0 l0.length l0) (hc0 : l0.length ≤ c0) (hr1 : Kd.C (Kd.int .i64) w A1 l1.length l1) (hc1 : l1.length ≤ c1) (h : tumbrelref09_Over.f k l0 l1 = some r) :
  Calls Try.prog 47 #[.slice A0 l0.length c0, .slice A1 l1.length c1] w fun e w' => e = .returned (.bool r) ∧ Below w.heap.size w w' := by
 have HR0 := Aside0.mk hr0
 have HC0 := Aside0.mk hc0
 clear hr0 hc0
 have HR1 := Aside0.mk hr1
 have HC1 := Aside0.mk hc1
 clear hr1 hc1
 have HB := Aside0.mk (Below.refl w.heap.size w)
 have H : ((tumbrelref09_Leaves.f k l0 l1).bind fun t225 => (tumbrelref09_Over.l0 k l0 t225 (t225.length : Int) 0)) = some r := h
 clear h
 replace H := Option.bind_eq_some_iff.mp H
 obtain ⟨t225, A30, H⟩ := H
 replace H : (tumbrelref09_Over.l0 k l0 t225 (t225.length : Int) 0) = some r := H
 have A3 := Aside0.mk A30
 clear A30
 have H' := Aside0.mk H
 clear H
 go_enter Try.func47, Try.ntmps47
 go_wp2_with (first | ((with_reducible refine gate_callee (f := 56) rfl ?_); refine goesL_ (some 9) rfl rfl Try.func56 (by kernel_rfl) rfl #[.slice A0 l0.length c0, .slice A1 l1.length c1] rfl kz9_6 ?_; (with_reducible refine (tumbrelref09_Leaves.calls k _ _ l0 _ _ l1 t225 _ ?side1 ?side2 ?side3 ?side4 A3.out).mono ?_); (case side1 => repeat (first | exact HR0.out | (with_reducible refine Kd.C_alloc ?_ _) | (with_reducible refine Kd.C_drewN ?_ _) | (with_reducible refine Kd.C_drew ?_))); (case side2 => exact HC0.out); (case side3 => repeat (first | exact HR1.out | (with_reducible refine Kd.C_alloc ?_ _) | (with_reducible refine Kd.C_drewN ?_ _) | (with_reducible refine Kd.C_drew ?_))); (case side4 => exact HC1.out); rintro e w4 ⟨v226, rfl, ho0, hb⟩; refine ⟨_, rfl, ?_⟩; have n0_ := Aside0.mk (Kd.R_lower ho0 (below_size kz9_2)); have n1_ := Aside0.mk (below_step kz9_2 hb); clear HB; have HO227 := n0_; have HB := n1_; clear n0_ n1_; (try clear hb); (try clear hb2); (try clear hk); (try clear hi); (try clear ho0); obtain ⟨Ao5, co5, eo5⟩ := Kd.R_slice HO227.out; subst eo5))
 go_loopg [12] k (fun kq v12 w' => ∃ (x12_1 : Int), v12 = .int .i64 x12_1 ∧ Aside0 (tumbrelref09_Over.l0 kq l0 t225 (t225.length : Int) x12_1 = some r) ∧ Aside0 (kq ≤ k) ∧ Aside0 (Kd.R (Kd.int .i64) 3 w' w.heap.size (fun _ => True) (.slice Ao5 t225.length co5) t225) ∧ Aside0 (Below w.heap.size w w'))
 case atStart => exact ⟨(0), kz9_8, H', ⟨Nat.le_refl _⟩, ⟨by (with_reducible repeat (first | apply Kd.R_alloc | apply Kd.R_drewN | apply Kd.R_drew)); exact HO227.out⟩, ⟨by repeat (first | (with_reducible first | exact HB.out | apply below_alloc | apply pw_below_drewN | apply below_drew1) | exact HB.out)⟩⟩
 case round =>
  clear H'
  try clear c1
  try clear p2
  try clear c4
  try clear c5
  obtain ⟨x12_1, rfl, HA, HK1, HO_5, HB⟩ := hrel
  cases gk with
  | zero => exact absurd HA.out (by simp [tumbrelref09_Over.l0])
  | succ k1 =>
   have H := HA.out
   clear HA
   simp only [tumbrelref09_Over.l0] at H
   by_cases c6 : x12_1 < (t225.length : Int)
   ·rw [if_pos c6] at H
    have c6b0 : decide (x12_1 < (t225.length : Int)) = true := decide_eq_true c6
    clear c6
    by_cases c7 : 0 ≤ x12_1
    ·rw [if_pos c7] at H
     have c7b0 : decide (0 ≤ x12_1) = true := decide_eq_true c7
     clear c7
     by_cases c8 : x12_1 < (t225.length : Int)
     ·rw [if_pos c8] at H
      have c8b0 : decide (x12_1 < (t225.length : Int)) = true := decide_eq_true c8
      clear c8
      by_cases c9 : 0 ≤ (rd t225 x12_1)
      ·rw [if_pos c9] at H
       have c9b0 : decide (0 ≤ (rd t225 x12_1)) = true := decide_eq_true c9
       clear c9
       by_cases c10 : (rd t225 x12_1) < (l0.length : Int)
       ·rw [if_pos c10] at H
        have c10b0 : decide ((rd t225 x12_1) < (l0.length : Int)) = true := decide_eq_true c10
        clear c10
        obtain ⟨bq11, hbq11⟩ : ∃ b_ : Bool, b_ = ((rd_T140 l0 (rd t225 x12_1)).f5) := ⟨_, rfl⟩
        replace H : (if bq11 = true then (tumbrelref09_Over.l0 k1 l0 t225 (t225.length : Int) (wrap64 (x12_1 + 1))) else (some false)) = some r := by rw [← hbq11] at H; exact H
        have Nbq11 := Aside0.mk hbq11
        clear hbq11
        by_cases c12 : bq11 = true
        ·subst c12
         have H1 : (tumbrelref09_Over.l0 k1 l0 t225 (t225.length : Int) (wrap64 (x12_1 + 1))) = some r := by rw [if_pos rfl] at H; exact H
         clear H
         have H := H1
         clear H1
         have H' := Aside0.mk H
         clear H
         have p228 : 0 ≤ (x12_1 : Int) := of_decide_eq_true kz9_4
         have q228 : x12_1 < (t225.length : Int) := of_decide_eq_true kz9_4
         obtain ⟨ad228, e228, hx228_0⟩ := Kd.at_int (Kd.R_reads' HO_5.out).2.2 x12_1 p228 q228
         cases e228
         replace p228 := eq_true p228
         replace q228 := eq_true q228
         have p229 : 0 ≤ ((rd t225 x12_1) : Int) := of_decide_eq_true kz9_4
         have q229 : (rd t225 x12_1) < (l0.length : Int) := of_decide_eq_true kz9_4
         obtain ⟨ad229, e229, hx229_0, hx229_1, hx229_2, hx229_3, hx229_4, hx229_5, hx229_6⟩ := at_T140 HR0.out (rd t225 x12_1) p229 q229
         (try rw [← Nbq11.out] at hx229_4)
         (try rw [← Nbq11.out] at hx229_5)
         (try rw [← Nbq11.out] at hx229_6)
         cases e229
         replace hx229_0 := (HB.out.cell (World.block_lt_of_cell? w _ hx229_0)).trans hx229_0
         replace hx229_1 := (HB.out.cell (World.block_lt_of_cell? w _ hx229_1)).trans hx229_1
         replace hx229_2 := (HB.out.cell (World.block_lt_of_cell? w _ hx229_2)).trans hx229_2
         replace hx229_3 := (HB.out.cell (World.block_lt_of_cell? w _ hx229_3)).trans hx229_3
         replace hx229_4 := (HB.out.cell (World.block_lt_of_cell? w _ hx229_4)).trans hx229_4
         replace hx229_5 := (HB.out.cell (World.block_lt_of_cell? w _ hx229_5)).trans hx229_5
         replace hx229_6 := (HB.out.cell (World.block_lt_of_cell? w _ hx229_6)).trans hx229_6
         replace p229 := eq_true p229
         replace q229 := eq_true q229
         go_wp2
         go_roundg k1
         case measure => have := HK1.out; omega
         case rel => exact ⟨(wrap64 (x12_1 + 1)), kz9_8, H', ⟨by have := HK1.out; omega⟩, ⟨by (with_reducible repeat (first | apply Kd.R_alloc | apply Kd.R_drewN | apply Kd.R_drew)); exact HO_5.out⟩, ⟨by repeat (first | (with_reducible first | exact HB.out | apply below_alloc | apply pw_below_drewN | apply below_drew1) | exact HB.out)⟩⟩
        ·replace c12 := Bool.eq_false_iff.mpr c12
         subst c12
         have H1 : (some false) = some r := by rw [if_neg (show ¬ (false = true) by decide)] at H; exact H
         clear H
         have H := H1
         clear H1
         obtain rfl := Option.some.inj H
         have p228 : 0 ≤ (x12_1 : Int) := of_decide_eq_true kz9_4
         have q228 : x12_1 < (t225.length : Int) := of_decide_eq_true kz9_4
         obtain ⟨ad228, e228, hx228_0⟩ := Kd.at_int (Kd.R_reads' HO_5.out).2.2 x12_1 p228 q228
         cases e228
         replace p228 := eq_true p228
         replace q228 := eq_true q228
         have p229 : 0 ≤ ((rd t225 x12_1) : Int) := of_decide_eq_true kz9_4
         have q229 : (rd t225 x12_1) < (l0.length : Int) := of_decide_eq_true kz9_4
         obtain ⟨ad229, e229, hx229_0, hx229_1, hx229_2, hx229_3, hx229_4, hx229_5, hx229_6⟩ := at_T140 HR0.out (rd t225 x12_1) p229 q229
         (try rw [← Nbq11.out] at hx229_4)
         (try rw [← Nbq11.out] at hx229_5)
         (try rw [← Nbq11.out] at hx229_6)
         cases e229
         replace hx229_0 := (HB.out.cell (World.block_lt_of_cell? w _ hx229_0)).trans hx229_0
         replace hx229_1 := (HB.out.cell (World.block_lt_of_cell? w _ hx229_1)).trans hx229_1
         replace hx229_2 := (HB.out.cell (World.block_lt_of_cell? w _ hx229_2)).trans hx229_2
         replace hx229_3 := (HB.out.cell (World.block_lt_of_cell? w _ hx229_3)).trans hx229_3
         replace hx229_4 := (HB.out.cell (World.block_lt_of_cell? w _ hx229_4)).trans hx229_4
         replace hx229_5 := (HB.out.cell (World.block_lt_of_cell? w _ hx229_5)).trans hx229_5
         replace hx229_6 := (HB.out.cell (World.block_lt_of_cell? w _ hx229_6)).trans hx229_6
         replace p229 := eq_true p229
         replace q229 := eq_true q229
         go_wp2
         go_ret
         exact ⟨by first | rfl | (simp [errW_none, errW_some] <;> rfl) | (simp [*, errW_none, errW_some] <;> rfl), by repeat (first | (with_reducible first | exact HB.out | apply below_alloc | apply pw_below_drewN | apply below_drew1) | exact HB.out)⟩
       ·rw [if_neg c10] at H
        exact absurd H (by simp)
      ·rw [if_neg c9] at H
       exact absurd H (by simp)
     ·rw [if_neg c8] at H
      exact absurd H (by simp)
    ·rw [if_neg c7] at H
     exact absurd H (by simp)
   ·rw [if_neg c6] at H
    have c6b0 : decide (x12_1 < (t225.length : Int)) = false := decide_eq_false c6
    clear c6
    obtain rfl := Option.some.inj H
    go_wp2
    go_ret
    exact ⟨by first | rfl | (simp [errW_none, errW_some] <;> rfl) | (simp [*, errW_none, errW_some] <;> rfl), by repeat (first | (with_reducible first | exact HB.out | apply below_alloc | apply pw_below_drewN | apply below_drew1) | exact HB.out)⟩

end Go.Proofs.Ytjghlomkimoeoaa.PConfigAsks
