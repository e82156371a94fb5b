-- Written by fprint.py (wip), by way of the printer's functions; where they are turned, by texts of mine.
import Derived.Test.YtdglbiafpofeeaaPOutboxEncodesx0
import Derived.Test.YtdglbiafpofeeaaPOutboxEncodesx1
import Derived.Test.YtdglbiafpofeeaaPOutboxEncodesx2
import Derived.Test.YtdglbiafpofeeaaPOutboxEncodesx4
import Derived.Test.YtdglbiafpofeeaaPOutboxEncodesx6
import Derived.Test.YtdglbiafpofeeaaPOutboxEncodesx9
namespace Go.Proofs.Ytdglbiafpofeeaa.POutboxEncodes
open Go.RowKit Go.Proofs.YtdglbiafpofeeaaW.PrintWords Go.Proofs.YtdglbiafpofeeaaW.PrintLast Go.Proofs.YtdglbiafpofeeaaW.PrintMore
attribute [local go_sem] max2_int min2_int max_two min_two max_three min_three max_four min_four   -- for this text's walks alone
set_option linter.unusedVariables false
set_option linter.unusedSimpArgs false
theorem kz10_1 {p_ : Prop} (h_ : p_ := by repeat (first | (with_reducible first | exact HB.out | apply below_alloc | apply pw_below_drewN | apply below_drew1 | refine below_set ?_ GE427.out) | exact HB.out)) : p_ := h_
theorem kz10_2 {p_ : Prop} (h_ : p_ := by (with_reducible repeat (first | refine blk_drewN ?_ _ | refine blk_drew ?_ | refine blk_alloc ?_ _)); exact BK427.out) : p_ := h_
theorem kz10_3 {p_ : Prop} (h_ : p_ := by (try simp only [List.map_toArray, List.map_cons, List.map_nil]); first | done | rfl | (simp only [List.length_drop, List.length_take]; rfl)) : p_ := h_
theorem kz10_4 {p_ : Prop} (h_ : p_ := by (with_reducible repeat (first | apply Kd.R_alloc | apply Kd.R_drewN | apply Kd.R_drew)); exact HO432.out) : p_ := h_
theorem kz10_5 {p_ : Prop} (h_ : p_ := by (with_reducible repeat (first | apply Kd.R_alloc | apply Kd.R_drewN | apply Kd.R_drew)); exact HO436.out) : p_ := h_
theorem kz10_6 {p_ : Prop} (h_ : p_ := by repeat (first | (with_reducible first | exact HB.out | apply below_alloc | apply pw_below_drewN | apply below_drew1) | exact HB.out)) : p_ := h_

attribute [local go_sem high] eqA28
/-! ### tumbrellaw18_OutboxEncodes: function 10 -/
def tumbrellaw18_OutboxEncodes.j0 : Nat → Bool → Int → Int → Int → ByteArray → Int → Bool → Option (Bool)
 | 0, _, _, _, _, _, _, _ => none
 | k + 1, x16, x428000, x428001, x428002, x428003, x428004, x428005 => if x16 = true then ((tumbrellaw18_awake.f k).bind fun t429 => (some t429)) else ((outbox_Encode.f k x428000 x428001 x428002 x428003 x428004 x428005).bind fun bt430 => ((tumbrelref18_Encode.f k x428000 x428001 x428002 x428003 x428004 x428005).bind fun bt434 => (if (strOfNums bt430.1).toList = (strOfNums bt434.1).toList then (if bt430.2 = bt434.2 then ((outbox_Formed.f x428000 x428001 x428002 x428003 x428004 x428005).bind fun t438 => ((tumbrelref18_Formed.f x428000 x428001 x428002 x428003 x428004 x428005).bind fun t439 => (if (t438 != t439) = true then (some false) else ((outbox_Decode.f k bt430.1).bind fun bt440 => (if bt430.2 = 0 then (if bt440.2.2.2.2.2.2 = 0 then (some (bt440.1 == x428000 && (bt440.2.1 == x428001 && (bt440.2.2.1 == x428002 && (bt440.2.2.2.1.toList == x428003.toList && (bt440.2.2.2.2.1 == x428004 && (bt440.2.2.2.2.2.1 == x428005))))))) else (some false)) else (some true)))))) else (some false)) else (some false))))
def tumbrellaw18_OutboxEncodes.f (k : Nat) (a0_0 : Int) (a0_1 : Int) (a0_2 : Int) (a0_3 : ByteArray) (a0_4 : Int) (a0_5 : Bool) : Option (Bool) := (tumbrellaw18_awake.f k).bind fun t428 => (if t428 = true then (tumbrellaw18_OutboxEncodes.j0 k (decide ((a0_3.size : Int) > 1000)) a0_0 a0_1 a0_2 a0_3 a0_4 a0_5) else (tumbrellaw18_OutboxEncodes.j0 k true a0_0 a0_1 a0_2 a0_3 a0_4 a0_5))
theorem tumbrellaw18_OutboxEncodes.mono_l : ∀ k, (∀ y0 y1 y2 y3 y4 y5 y6, LeO (tumbrellaw18_OutboxEncodes.j0 k y0 y1 y2 y3 y4 y5 y6) (tumbrellaw18_OutboxEncodes.j0 (k + 1) y0 y1 y2 y3 y4 y5 y6))
 | 0 => fun _ _ _ _ _ _ _ r h => by simp [tumbrellaw18_OutboxEncodes.j0] at h
 | k + 1 => by
  have ih0 := tumbrellaw18_OutboxEncodes.mono_l k
  ·intro y0 y1 y2 y3 y4 y5 y6
   unfold tumbrellaw18_OutboxEncodes.j0
   repeat' first
   | (with_reducible exact ih0 _ _ _ _ _ _ _)
   | (with_reducible exact outbox_Decode.mono _ _)
   | (with_reducible exact outbox_Encode.mono _ _ _ _ _ _ _)
   | (with_reducible exact tumbrellaw18_awake.mono _)
   | (with_reducible exact tumbrelref18_Encode.mono _ _ _ _ _ _ _)
   | (with_reducible exact LeO.refl _)
   | (with_reducible exact LeO.none _)
   | (with_reducible refine LeO.ite ?_ ?_)
   | (with_reducible refine LeO.bind ?_ (fun _ => ?_))
   | exact ih0 _ _ _ _ _ _ _
   | exact outbox_Decode.mono _ _
   | exact outbox_Encode.mono _ _ _ _ _ _ _
   | exact tumbrellaw18_awake.mono _
   | exact tumbrelref18_Encode.mono _ _ _ _ _ _ _
   | exact LeO.none _
   | refine LeO.ite ?_ ?_
   | refine LeO.bind ?_ (fun _ => ?_)
theorem tumbrellaw18_OutboxEncodes.mono : ∀ a0 a1 a2 a3 a4 a5 k, LeO (tumbrellaw18_OutboxEncodes.f k a0 a1 a2 a3 a4 a5) (tumbrellaw18_OutboxEncodes.f (k + 1) a0 a1 a2 a3 a4 a5) := by
 intro a0 a1 a2 a3 a4 a5 k
 have ih0 := tumbrellaw18_OutboxEncodes.mono_l k
 unfold tumbrellaw18_OutboxEncodes.f
 repeat' first
   | (with_reducible exact ih0 _ _ _ _ _ _ _)
   | (with_reducible exact outbox_Decode.mono _ _)
   | (with_reducible exact outbox_Encode.mono _ _ _ _ _ _ _)
   | (with_reducible exact tumbrellaw18_awake.mono _)
   | (with_reducible exact tumbrelref18_Encode.mono _ _ _ _ _ _ _)
   | (with_reducible exact LeO.refl _)
   | (with_reducible exact LeO.none _)
   | (with_reducible refine LeO.ite ?_ ?_)
   | (with_reducible refine LeO.bind ?_ (fun _ => ?_))
   | exact ih0 _ _ _ _ _ _ _
   | exact outbox_Decode.mono _ _
   | exact outbox_Encode.mono _ _ _ _ _ _ _
   | exact tumbrellaw18_awake.mono _
   | exact tumbrelref18_Encode.mono _ _ _ _ _ _ _
   | exact LeO.none _
   | refine LeO.ite ?_ ?_
   | refine LeO.bind ?_ (fun _ => ?_)
def tumbrellaw18_OutboxEncodes.T5 : Bool × List (List Nat × List Nat) := (true, [([], []), ([0], [0]), ([], []), ([2], [2]), ([1, 3], [1, 3]), ([4], [4]), ([5], [5]), ([5], [5]), ([6, 7, 5], [5, 6, 7]), ([5, 8], [5, 8]), ([9, 5], [9]), ([10], [10]), ([11, 10, 10], [10, 11]), ([10], [10]), ([13, 12, 10], [10, 13]), ([12, 14, 10], [10, 12, 14]), ([10, 15], [10, 15])])
def tumbrellaw18_OutboxEncodes.B5 : List Nat := [0, 1, 0, 4, 15, 31, 63, 63, 255, 511, 1023, 2047, 4095, 2047, 16383, 32767, 65535]
theorem tumbrellaw18_OutboxEncodes.tab5 : rtab .any (opsOf Try.f10 5) = tumbrellaw18_OutboxEncodes.T5 := by kernel_rfl
theorem tumbrellaw18_OutboxEncodes.bits5 : waitsOk tumbrellaw18_OutboxEncodes.T5.2 tumbrellaw18_OutboxEncodes.B5 = true := by kernel_rfl
set_option maxHeartbeats 8000000 in
set_option maxRecDepth 100000 in
theorem tumbrellaw18_OutboxEncodes.calls (k : Nat) (a0_0 : Int) (a0_1 : Int) (a0_2 : Int) (a0_3 : ByteArray) (a0_4 : Int) (a0_5 : Bool) (r : Bool) (w : World) (h : tumbrellaw18_OutboxEncodes.f k a0_0 a0_1 a0_2 a0_3 a0_4 a0_5 = some r) :
  Calls Try.prog 10 #[.agg #[.int .i64 a0_0, .int .i64 a0_1, .int .i64 a0_2, .string a0_3, .int .i64 a0_4, .bool a0_5]] w fun e w' => e = .returned (.bool r) ∧ Below w.heap.size w w' := by
 have hu28 := Try.underlying28
 have HB := Aside0.mk (Below.refl w.heap.size w)
 have H : ((tumbrellaw18_awake.f k).bind fun t428 => (if t428 = true then (tumbrellaw18_OutboxEncodes.j0 k (decide ((a0_3.size : Int) > 1000)) a0_0 a0_1 a0_2 a0_3 a0_4 a0_5) else (tumbrellaw18_OutboxEncodes.j0 k true a0_0 a0_1 a0_2 a0_3 a0_4 a0_5))) = some r := h
 clear h
 have HC2 := Aside0.mk H
 clear H
 go_enter Try.func10, Try.ntmps10
 go_upto_region 1 with (first | ((with_reducible refine gate_dst (N := 1) rfl ?_); (try (refine gate_guard (by rfl) ?_; dsimp only)); refine box_event ?hg (N := 1) ?hd (cs := #[.int .i64 a0_0, .int .i64 a0_1, .int .i64 a0_2, .string a0_3, .int .i64 a0_4, .bool a0_5]) (t := 28) ?hr ?_; (case hd => rfl); (case hg => rfl); (case hr => first | (go_simp; done) | (go_simp; rfl)); intro gb427 hg w3 hbox hb; have n0_ := Aside0.mk (below_step kz10_6 hb); have n1_ := Aside0.mk (hbox); have n2_ := Aside0.mk ((by rw [hg]; exact (below_size kz10_6) : w.heap.size ≤ gb427)); have n3_ := Aside0.mk ((by rw [hg]; exact (below_size kz10_6) : w.heap.size ≤ gb427)); clear HB; have HB := n0_; have BK427 := n1_; have GW427 := n2_; have GE427 := n3_; clear n0_ n1_ n2_ n3_; clear hb hbox hg))
 (try simp only [Act.put, sA_, sB_, sC_])
 go_cut [16] (fun v16 wc => ∃ (kq : Nat) (x16_1 : Bool), v16 = .bool x16_1 ∧ Aside0 (tumbrellaw18_OutboxEncodes.j0 kq x16_1 a0_0 a0_1 a0_2 a0_3 a0_4 a0_5 = some r) ∧ Aside0 (kq ≤ k) ∧ Aside0 (wc.heap[gb427]? = some (.cells #[.int .i64 a0_0, .int .i64 a0_1, .int .i64 a0_2, .string a0_3, .int .i64 a0_4, .bool a0_5] 28 (0, 0))) ∧ Aside0 (Below w.heap.size w wc))
 case first =>
  have H := HC2.out
  clear HC2
  replace H := Option.bind_eq_some_iff.mp H
  obtain ⟨t428, A40, H⟩ := H
  replace H : (if t428 = true then (tumbrellaw18_OutboxEncodes.j0 k (decide ((a0_3.size : Int) > 1000)) a0_0 a0_1 a0_2 a0_3 a0_4 a0_5) else (tumbrellaw18_OutboxEncodes.j0 k true a0_0 a0_1 a0_2 a0_3 a0_4 a0_5)) = some r := H
  have A4 := Aside0.mk A40
  clear A40
  by_cases c5 : t428 = true
  ·subst c5
   have H1 : (tumbrellaw18_OutboxEncodes.j0 k (decide ((a0_3.size : Int) > 1000)) a0_0 a0_1 a0_2 a0_3 a0_4 a0_5) = some r := by rw [if_pos rfl] at H; exact H
   clear H
   have H := H1
   clear H1
   have H' := Aside0.mk H
   clear H
   go_wp2_with (first | ((with_reducible refine gate_callee (f := 22) rfl ?_); refine goesL_ (some 9) rfl rfl Try.func22 (by kernel_rfl) rfl #[] rfl kz10_3 ?_; (with_reducible refine (tumbrellaw18_awake.calls k  true _ A4.out).mono ?_); rintro e w6 ⟨rfl, hb⟩; refine ⟨_, rfl, ?_⟩; have n0_ := Aside0.mk (blk_below (g := gb427) (o := .cells #[.int .i64 a0_0, .int .i64 a0_1, .int .i64 a0_2, .string a0_3, .int .i64 a0_4, .bool a0_5] 28 (0, 0)) kz10_2 hb); have n1_ := Aside0.mk (below_step kz10_1 hb); clear BK427; clear HB; have BK427 := n0_; have HB := n1_; clear n0_ n1_; (try clear hb); (try clear hb2); (try clear hk); (try clear hi); have hcz7_0 : w6.cell? ⟨gb427, 0, none⟩ = some (.int .i64 a0_0) := (blk_cell BK427.out 0).trans rfl; have hcz7_1 : w6.cell? ⟨gb427, 1, none⟩ = some (.int .i64 a0_1) := (blk_cell BK427.out 1).trans rfl; have hcz7_2 : w6.cell? ⟨gb427, 2, none⟩ = some (.int .i64 a0_2) := (blk_cell BK427.out 2).trans rfl; have hcz7_3 : w6.cell? ⟨gb427, 3, none⟩ = some (.string a0_3) := (blk_cell BK427.out 3).trans rfl; have hcz7_4 : w6.cell? ⟨gb427, 4, none⟩ = some (.int .i64 a0_4) := (blk_cell BK427.out 4).trans rfl; have hcz7_5 : w6.cell? ⟨gb427, 5, none⟩ = some (.bool a0_5) := (blk_cell BK427.out 5).trans rfl; have hfz7_0 := blk_frozen BK427.out 0; have hfz7_1 := blk_frozen BK427.out 1; have hfz7_2 := blk_frozen BK427.out 2; have hfz7_3 := blk_frozen BK427.out 3; have hfz7_4 := blk_frozen BK427.out 4; have hfz7_5 := blk_frozen BK427.out 5))
   go_meet
   case rel => exact ⟨_, (decide ((a0_3.size : Int) > 1000)), (by first | rfl | (simp; done) | (simp [*]; done)), H', ⟨by first | omega | exact Nat.le_refl _⟩, ⟨by (with_reducible repeat (first | refine blk_drewN ?_ _ | refine blk_drew ?_ | refine blk_alloc ?_ _)); exact BK427.out⟩, ⟨by repeat (first | (with_reducible first | exact HB.out | apply below_alloc | apply pw_below_drewN | apply below_drew1 | refine below_set ?_ GE427.out) | exact HB.out)⟩⟩
  ·replace c5 := Bool.eq_false_iff.mpr c5
   subst c5
   have H1 : (tumbrellaw18_OutboxEncodes.j0 k true a0_0 a0_1 a0_2 a0_3 a0_4 a0_5) = some r := by rw [if_neg (show ¬ (false = true) by decide)] at H; exact H
   clear H
   have H := H1
   clear H1
   have H' := Aside0.mk H
   clear H
   go_wp2_with (first | ((with_reducible refine gate_callee (f := 22) rfl ?_); refine goesL_ (some 9) rfl rfl Try.func22 (by kernel_rfl) rfl #[] rfl kz10_3 ?_; (with_reducible refine (tumbrellaw18_awake.calls k  false _ A4.out).mono ?_); rintro e w8 ⟨rfl, hb⟩; refine ⟨_, rfl, ?_⟩; have n0_ := Aside0.mk (blk_below (g := gb427) (o := .cells #[.int .i64 a0_0, .int .i64 a0_1, .int .i64 a0_2, .string a0_3, .int .i64 a0_4, .bool a0_5] 28 (0, 0)) kz10_2 hb); have n1_ := Aside0.mk (below_step kz10_1 hb); clear BK427; clear HB; have BK427 := n0_; have HB := n1_; clear n0_ n1_; (try clear hb); (try clear hb2); (try clear hk); (try clear hi)))
   go_meet
   case rel => exact ⟨_, (true), (by first | rfl | (simp; done) | (simp [*]; done)), H', ⟨by first | omega | exact Nat.le_refl _⟩, ⟨by (with_reducible repeat (first | refine blk_drewN ?_ _ | refine blk_drew ?_ | refine blk_alloc ?_ _)); exact BK427.out⟩, ⟨by repeat (first | (with_reducible first | exact HB.out | apply below_alloc | apply pw_below_drewN | apply below_drew1 | refine below_set ?_ GE427.out) | exact HB.out)⟩⟩
 case rest =>
  clear HC2
  try clear c1
  try clear c2
  try clear p2
  try clear c5
  try clear hcz7_0
  try clear hcz7_1
  try clear hcz7_2
  try clear hcz7_3
  try clear hcz7_4
  try clear hcz7_5
  try clear hfz7_0
  try clear hfz7_1
  try clear hfz7_2
  try clear hfz7_3
  try clear hfz7_4
  try clear hfz7_5
  obtain ⟨kq, x16_1, rfl, HA, HJ1, BK427, HB⟩ := hcut
  cases kq with
  | zero => exact absurd HA.out (by simp [tumbrellaw18_OutboxEncodes.j0])
  | succ kj1 =>
   have H := HA.out
   clear HA
   simp only [tumbrellaw18_OutboxEncodes.j0] at H
   by_cases c9 : x16_1 = true
   ·subst c9
    have H1 : ((tumbrellaw18_awake.f kj1).bind fun t429 => (some t429)) = some r := by rw [if_pos rfl] at H; exact H
    clear H
    have H := H1
    clear H1
    replace H := Option.bind_eq_some_iff.mp H
    obtain ⟨t429, A100, H⟩ := H
    replace H : (some t429) = some r := H
    have A10 := Aside0.mk A100
    clear A100
    obtain rfl := Option.some.inj H
    go_wp2_with (first | ((with_reducible refine gate_callee (f := 22) rfl ?_); refine goesL_ (some 17) rfl rfl Try.func22 (by kernel_rfl) rfl #[] rfl kz10_3 ?_; (with_reducible refine (tumbrellaw18_awake.calls kj1  t429 _ A10.out).mono ?_); rintro e w11 ⟨rfl, hb⟩; refine ⟨_, rfl, ?_⟩; have n0_ := Aside0.mk (blk_below (g := gb427) (o := .cells #[.int .i64 a0_0, .int .i64 a0_1, .int .i64 a0_2, .string a0_3, .int .i64 a0_4, .bool a0_5] 28 (0, 0)) kz10_2 hb); have n1_ := Aside0.mk (below_step kz10_1 hb); clear BK427; clear HB; have BK427 := n0_; have HB := n1_; clear n0_ n1_; (try clear hb); (try clear hb2); (try clear hk); (try clear hi)))
    go_ret
    exact ⟨by first | rfl | (simp [errW_none, errW_some] <;> rfl) | (simp [*, errW_none, errW_some] <;> rfl), by repeat (first | (with_reducible first | exact HB.out | apply below_alloc | apply pw_below_drewN | apply below_drew1 | refine below_set ?_ GE427.out) | exact HB.out)⟩
   ·replace c9 := Bool.eq_false_iff.mpr c9
    subst c9
    have H1 : ((outbox_Encode.f kj1 a0_0 a0_1 a0_2 a0_3 a0_4 a0_5).bind fun bt430 => ((tumbrelref18_Encode.f kj1 a0_0 a0_1 a0_2 a0_3 a0_4 a0_5).bind fun bt434 => (if (strOfNums bt430.1).toList = (strOfNums bt434.1).toList then (if bt430.2 = bt434.2 then ((outbox_Formed.f a0_0 a0_1 a0_2 a0_3 a0_4 a0_5).bind fun t438 => ((tumbrelref18_Formed.f a0_0 a0_1 a0_2 a0_3 a0_4 a0_5).bind fun t439 => (if (t438 != t439) = true then (some false) else ((outbox_Decode.f kj1 bt430.1).bind fun bt440 => (if bt430.2 = 0 then (if bt440.2.2.2.2.2.2 = 0 then (some (bt440.1 == a0_0 && (bt440.2.1 == a0_1 && (bt440.2.2.1 == a0_2 && (bt440.2.2.2.1.toList == a0_3.toList && (bt440.2.2.2.2.1 == a0_4 && (bt440.2.2.2.2.2.1 == a0_5))))))) else (some false)) else (some true)))))) else (some false)) else (some false)))) = some r := by rw [if_neg (show ¬ (false = true) by decide)] at H; exact H
    clear H
    have H := H1
    clear H1
    replace H := Option.bind_eq_some_iff.mp H
    obtain ⟨⟨t430, t433⟩, A120, H⟩ := H
    replace H : ((tumbrelref18_Encode.f kj1 a0_0 a0_1 a0_2 a0_3 a0_4 a0_5).bind fun bt434 => (if (strOfNums t430).toList = (strOfNums bt434.1).toList then (if t433 = bt434.2 then ((outbox_Formed.f a0_0 a0_1 a0_2 a0_3 a0_4 a0_5).bind fun t438 => ((tumbrelref18_Formed.f a0_0 a0_1 a0_2 a0_3 a0_4 a0_5).bind fun t439 => (if (t438 != t439) = true then (some false) else ((outbox_Decode.f kj1 t430).bind fun bt440 => (if t433 = 0 then (if bt440.2.2.2.2.2.2 = 0 then (some (bt440.1 == a0_0 && (bt440.2.1 == a0_1 && (bt440.2.2.1 == a0_2 && (bt440.2.2.2.1.toList == a0_3.toList && (bt440.2.2.2.2.1 == a0_4 && (bt440.2.2.2.2.2.1 == a0_5))))))) else (some false)) else (some true)))))) else (some false)) else (some false))) = some r := H
    have A12 := Aside0.mk A120
    clear A120
    replace H := Option.bind_eq_some_iff.mp H
    obtain ⟨⟨t434, t437⟩, A130, H⟩ := H
    replace H : (if (strOfNums t430).toList = (strOfNums t434).toList then (if t433 = t437 then ((outbox_Formed.f a0_0 a0_1 a0_2 a0_3 a0_4 a0_5).bind fun t438 => ((tumbrelref18_Formed.f a0_0 a0_1 a0_2 a0_3 a0_4 a0_5).bind fun t439 => (if (t438 != t439) = true then (some false) else ((outbox_Decode.f kj1 t430).bind fun bt440 => (if t433 = 0 then (if bt440.2.2.2.2.2.2 = 0 then (some (bt440.1 == a0_0 && (bt440.2.1 == a0_1 && (bt440.2.2.1 == a0_2 && (bt440.2.2.2.1.toList == a0_3.toList && (bt440.2.2.2.2.1 == a0_4 && (bt440.2.2.2.2.2.1 == a0_5))))))) else (some false)) else (some true)))))) else (some false)) else (some false)) = some r := H
    have A13 := Aside0.mk A130
    clear A130
    by_cases c14 : (strOfNums t430).toList = (strOfNums t434).toList
    ·rw [if_pos c14] at H
     have c14b0 : ((strOfNums t430).toList == (strOfNums t434).toList) = true := beq_iff_eq.mpr c14
     have c14b1 : ((strOfNums t430).toList != (strOfNums t434).toList) = false := bne_eq_false_iff_eq.mpr c14
     clear c14
     by_cases c15 : t433 = t437
     ·rw [if_pos c15] at H
      have c15b0 : (t433 == t437) = true := beq_iff_eq.mpr c15
      have c15b1 : (t433 != t437) = false := bne_eq_false_iff_eq.mpr c15
      clear c15
      replace H := Option.bind_eq_some_iff.mp H
      obtain ⟨t438, A160, H⟩ := H
      replace H : ((tumbrelref18_Formed.f a0_0 a0_1 a0_2 a0_3 a0_4 a0_5).bind fun t439 => (if (t438 != t439) = true then (some false) else ((outbox_Decode.f kj1 t430).bind fun bt440 => (if t433 = 0 then (if bt440.2.2.2.2.2.2 = 0 then (some (bt440.1 == a0_0 && (bt440.2.1 == a0_1 && (bt440.2.2.1 == a0_2 && (bt440.2.2.2.1.toList == a0_3.toList && (bt440.2.2.2.2.1 == a0_4 && (bt440.2.2.2.2.2.1 == a0_5))))))) else (some false)) else (some true))))) = some r := H
      have A16 := Aside0.mk A160
      clear A160
      replace H := Option.bind_eq_some_iff.mp H
      obtain ⟨t439, A170, H⟩ := H
      replace H : (if (t438 != t439) = true then (some false) else ((outbox_Decode.f kj1 t430).bind fun bt440 => (if t433 = 0 then (if bt440.2.2.2.2.2.2 = 0 then (some (bt440.1 == a0_0 && (bt440.2.1 == a0_1 && (bt440.2.2.1 == a0_2 && (bt440.2.2.2.1.toList == a0_3.toList && (bt440.2.2.2.2.1 == a0_4 && (bt440.2.2.2.2.2.1 == a0_5))))))) else (some false)) else (some true)))) = some r := H
      have A17 := Aside0.mk A170
      clear A170
      by_cases c18 : (t438 != t439) = true
      ·rw [if_pos c18] at H
       have c18b0 : (t438 != t439) = true := c18
       (try (have c18b1 : decide (t438 = t439) = false := by simpa using c18))
       (try (have c18b2 : (t438 == t439) = false := by simpa using c18))
       (try (have c18b3 : ¬ (t438 = t439) := by simpa using c18))
       clear c18
       obtain rfl := Option.some.inj H
       have hcz19_0 : wc.cell? ⟨gb427, 0, none⟩ = some (.int .i64 a0_0) := (blk_cell BK427.out 0).trans rfl
       have hcz19_1 : wc.cell? ⟨gb427, 1, none⟩ = some (.int .i64 a0_1) := (blk_cell BK427.out 1).trans rfl
       have hcz19_2 : wc.cell? ⟨gb427, 2, none⟩ = some (.int .i64 a0_2) := (blk_cell BK427.out 2).trans rfl
       have hcz19_3 : wc.cell? ⟨gb427, 3, none⟩ = some (.string a0_3) := (blk_cell BK427.out 3).trans rfl
       have hcz19_4 : wc.cell? ⟨gb427, 4, none⟩ = some (.int .i64 a0_4) := (blk_cell BK427.out 4).trans rfl
       have hcz19_5 : wc.cell? ⟨gb427, 5, none⟩ = some (.bool a0_5) := (blk_cell BK427.out 5).trans rfl
       have hfz19_0 := blk_frozen BK427.out 0
       have hfz19_1 := blk_frozen BK427.out 1
       have hfz19_2 := blk_frozen BK427.out 2
       have hfz19_3 := blk_frozen BK427.out 3
       have hfz19_4 := blk_frozen BK427.out 4
       have hfz19_5 := blk_frozen BK427.out 5
       try go_wp2_with (first | ((with_reducible refine gate_callee (f := 34) rfl ?_); refine goesL_ (some 20) rfl rfl Try.func34 (by kernel_rfl) rfl #[.agg #[.int .i64 a0_0, .int .i64 a0_1, .int .i64 a0_2, .string a0_3, .int .i64 a0_4, .bool a0_5]] rfl kz10_3 ?_; (with_reducible refine (outbox_Encode.calls kj1 a0_0 a0_1 a0_2 a0_3 a0_4 a0_5 t430 t433 _ A12.out).mono ?_); rintro e w20 ⟨v431, rfl, ho0, hb⟩; refine ⟨_, rfl, ?_⟩; have n0_ := Aside0.mk (Kd.R_lower ho0 (below_size kz10_1)); have n1_ := Aside0.mk (blk_below (g := gb427) (o := .cells #[.int .i64 a0_0, .int .i64 a0_1, .int .i64 a0_2, .string a0_3, .int .i64 a0_4, .bool a0_5] 28 (0, 0)) kz10_2 hb); have n2_ := Aside0.mk (below_step kz10_1 hb); clear BK427; clear HB; have HO432 := n0_; have BK427 := n1_; have HB := n2_; clear n0_ n1_ n2_; (try clear hb); (try clear hb2); (try clear hk); (try clear hi); (try clear ho0); have hcz21_0 : w20.cell? ⟨gb427, 0, none⟩ = some (.int .i64 a0_0) := (blk_cell BK427.out 0).trans rfl; have hcz21_1 : w20.cell? ⟨gb427, 1, none⟩ = some (.int .i64 a0_1) := (blk_cell BK427.out 1).trans rfl; have hcz21_2 : w20.cell? ⟨gb427, 2, none⟩ = some (.int .i64 a0_2) := (blk_cell BK427.out 2).trans rfl; have hcz21_3 : w20.cell? ⟨gb427, 3, none⟩ = some (.string a0_3) := (blk_cell BK427.out 3).trans rfl; have hcz21_4 : w20.cell? ⟨gb427, 4, none⟩ = some (.int .i64 a0_4) := (blk_cell BK427.out 4).trans rfl; have hcz21_5 : w20.cell? ⟨gb427, 5, none⟩ = some (.bool a0_5) := (blk_cell BK427.out 5).trans rfl; have hfz21_0 := blk_frozen BK427.out 0; have hfz21_1 := blk_frozen BK427.out 1; have hfz21_2 := blk_frozen BK427.out 2; have hfz21_3 := blk_frozen BK427.out 3; have hfz21_4 := blk_frozen BK427.out 4; have hfz21_5 := blk_frozen BK427.out 5) | ((with_reducible refine gate_callee (f := 35) rfl ?_); refine goesL_ (some 25) rfl rfl Try.func35 (by kernel_rfl) rfl #[.agg #[.int .i64 a0_0, .int .i64 a0_1, .int .i64 a0_2, .string a0_3, .int .i64 a0_4, .bool a0_5]] rfl kz10_3 ?_; (with_reducible refine (tumbrelref18_Encode.calls kj1 a0_0 a0_1 a0_2 a0_3 a0_4 a0_5 t434 t437 _ A13.out).mono ?_); rintro e w22 ⟨v435, rfl, ho0, hb⟩; refine ⟨_, rfl, ?_⟩; have n0_ := Aside0.mk (Kd.R_elder' kz10_4 (Kd.R_base ho0) hb); have n1_ := Aside0.mk (Kd.R_lower (Kd.R_new' ho0 (Kd.R_lt kz10_4)) (below_size kz10_1)); have n2_ := Aside0.mk (blk_below (g := gb427) (o := .cells #[.int .i64 a0_0, .int .i64 a0_1, .int .i64 a0_2, .string a0_3, .int .i64 a0_4, .bool a0_5] 28 (0, 0)) kz10_2 hb); have n3_ := Aside0.mk (below_step kz10_1 hb); clear HO432; clear BK427; clear HB; have HO432 := n0_; have HO436 := n1_; have BK427 := n2_; have HB := n3_; clear n0_ n1_ n2_ n3_; (try clear hb); (try clear hb2); (try clear hk); (try clear hi); (try clear ho0)))
       have n0_ := Aside0.mk (Kd.R_drew HO432.out)
       have n1_ := Aside0.mk (Kd.R_drew HO436.out)
       have n2_ := Aside0.mk (blk_drew BK427.out)
       have n3_ := Aside0.mk (below_drew1 HB.out)
       clear HO432
       clear HO436
       clear BK427
       clear HB
       have HO432 := n0_
       have HO436 := n1_
       have BK427 := n2_
       have HB := n3_
       clear n0_ n1_ n2_ n3_
       have hcv24 := own_string (P := Try.prog) Try.underlying50 Try.underlying5 Try.underlying9 (Kd.own_of_R HO432.out)
       have hcv25 := own_string (P := Try.prog) Try.underlying50 Try.underlying5 Try.underlying9 (Kd.own_of_R HO436.out)
       refine start_ (n := 17) (S := fun w' => w'.cell? ⟨gb427, 0, none⟩ = some (.int .i64 a0_0) ∧ w'.cell? ⟨gb427, 1, none⟩ = some (.int .i64 a0_1) ∧ w'.cell? ⟨gb427, 2, none⟩ = some (.int .i64 a0_2) ∧ w'.cell? ⟨gb427, 3, none⟩ = some (.string a0_3) ∧ w'.cell? ⟨gb427, 4, none⟩ = some (.int .i64 a0_4) ∧ w'.cell? ⟨gb427, 5, none⟩ = some (.bool a0_5) ∧ (convert 50 9 v431).run Try.prog w' = .ok (.string (strOfNums t430)) w' ∧ (convert 50 9 v435).run Try.prog w' = .ok (.string (strOfNums t434)) w') (ds := []) #[false, false, false, false, false, false, false, false, false, false, false, false, false, false, false, false, false] (by kernel_rfl) rfl rfl ⟨(blk_cell BK427.out 0).trans rfl, (blk_cell BK427.out 1).trans rfl, (blk_cell BK427.out 2).trans rfl, (blk_cell BK427.out 3).trans rfl, (blk_cell BK427.out 4).trans rfl, (blk_cell BK427.out 5).trans rfl, hcv24, hcv25⟩ (fun hHeld => ?_); refine with_tabW tumbrellaw18_OutboxEncodes.tab5 tumbrellaw18_OutboxEncodes.bits5 (fun HT_ HW_ => ?_)
       generalize w22.drew = w23 at HO432 HO436 BK427 HB hHeld ⊢
       refine pure_ (i := 0) (N := some 28) (v := ?_) (a' := ?_) #[true, false, false, false, false, false, false, false, false, false, false, false, false, false, false, false, false] rfl rfl (any_of HT_.out (by kernel_rfl)) (fun _ _ _ h => h) (Or.inl ⟨by rfl, ?_⟩) ?_ ?_
       rotate_left
       ·intro w'
        go_simp
        with_reducible rfl
       rotate_left
       ·simp only [Act.put, sA_, sB_, sC_, i64_w, i32_w]
        rfl
       refine take_ (i := 1) (N := some 29) (v := ?_) (a' := ?_) #[true, true, false, false, false, false, false, false, false, false, false, false, false, false, false, false, false] rfl rfl (take_ofW HT_.out HW_.out (by kernel_rfl)) (fun _ _ _ h => h) (Or.inl ⟨by rfl, ?_⟩) hHeld ?_ ?_
       rotate_left
       ·rintro w' ⟨s0, s1, s2, s3, s4, s5, s6, s7⟩
        go_simp
        with_reducible rfl
       rotate_left
       ·simp only [Act.put, sA_, sB_, sC_, i64_w, i32_w]
        rfl
       refine pure_ (i := 2) (N := some 30) (v := ?_) (a' := ?_) #[true, true, true, false, false, false, false, false, false, false, false, false, false, false, false, false, false] rfl rfl (any_of HT_.out (by kernel_rfl)) (fun _ _ _ h => h) (Or.inl ⟨by rfl, ?_⟩) ?_ ?_
       rotate_left
       ·intro w'
        go_simp
        with_reducible rfl
       rotate_left
       ·simp only [Act.put, sA_, sB_, sC_, i64_w, i32_w]
        rfl
       refine take_ (i := 3) (N := some 31) (v := ?_) (a' := ?_) #[true, true, true, true, false, false, false, false, false, false, false, false, false, false, false, false, false] rfl rfl (take_ofW HT_.out HW_.out (by kernel_rfl)) (fun _ _ _ h => h) (Or.inl ⟨by rfl, ?_⟩) hHeld ?_ ?_
       rotate_left
       ·rintro w' ⟨s0, s1, s2, s3, s4, s5, s6, s7⟩
        go_simp
        with_reducible rfl
       rotate_left
       ·simp only [Act.put, sA_, sB_, sC_, i64_w, i32_w]
        rfl
       refine pure_ (i := 4) (N := some 32) (v := ?_) (a' := ?_) #[true, true, true, true, true, false, false, false, false, false, false, false, false, false, false, false, false] rfl rfl (any_of HT_.out (by kernel_rfl)) (fun _ _ _ h => h) (Or.inl ⟨by rfl, ?_⟩) ?_ ?_
       rotate_left
       ·intro w'
        go_simp
        with_reducible rfl
       rotate_left
       ·simp only [Act.put, sA_, sB_, sC_, i64_w, i32_w]
        rfl
       refine pure_ (i := 5) (N := some 33) (v := ?_) (a' := ?_) #[true, true, true, true, true, true, false, false, false, false, false, false, false, false, false, false, false] rfl rfl (any_of HT_.out (by kernel_rfl)) (fun _ _ _ h => h) (Or.inl ⟨by rfl, ?_⟩) ?_ ?_
       rotate_left
       ·intro w'
        go_simp
        with_reducible rfl
       rotate_left
       ·simp only [Act.put, sA_, sB_, sC_, i64_w, i32_w]
        rfl
       refine pure_ (i := 6) (N := some 34) (v := ?_) (a' := ?_) #[true, true, true, true, true, true, true, false, false, false, false, false, false, false, false, false, false] rfl rfl (any_of HT_.out (by kernel_rfl)) (fun _ _ _ h => h) (Or.inl ⟨by rfl, ?_⟩) ?_ ?_
       rotate_left
       ·intro w'
        go_simp
        with_reducible rfl
       rotate_left
       ·simp only [Act.put, sA_, sB_, sC_, i64_w, i32_w]
        rfl
       refine pure_ (i := 7) (N := some 35) (v := ?_) (a' := ?_) #[true, true, true, true, true, true, true, true, false, false, false, false, false, false, false, false, false] rfl rfl (any_of HT_.out (by kernel_rfl)) (fun _ _ _ h => h) (Or.inl ⟨by rfl, ?_⟩) ?_ ?_
       rotate_left
       ·intro w'
        go_simp
        with_reducible rfl
       rotate_left
       ·simp only [Act.put, sA_, sB_, sC_, i64_w, i32_w]
        rfl
       refine pure_ (i := 8) (N := some 36) (v := ?_) (a' := ?_) #[true, true, true, true, true, true, true, true, true, false, false, false, false, false, false, false, false] rfl rfl (any_of HT_.out (by kernel_rfl)) (fun _ _ _ h => h) (Or.inl ⟨by rfl, ?_⟩) ?_ ?_
       rotate_left
       ·intro w'
        go_simp
        with_reducible rfl
       rotate_left
       ·simp only [Act.put, sA_, sB_, sC_, i64_w, i32_w]
        rfl
       refine pure_ (i := 9) (N := some 37) (v := ?_) (a' := ?_) #[true, true, true, true, true, true, true, true, true, true, false, false, false, false, false, false, false] rfl rfl (any_of HT_.out (by kernel_rfl)) (fun _ _ _ h => h) (Or.inl ⟨by rfl, ?_⟩) ?_ ?_
       rotate_left
       ·intro w'
        go_simp
        with_reducible rfl
       rotate_left
       ·simp only [Act.put, sA_, sB_, sC_, i64_w, i32_w]
        rfl
       refine pure_ (i := 10) (N := some 38) (v := ?_) (a' := ?_) #[true, true, true, true, true, true, true, true, true, true, true, false, false, false, false, false, false] rfl rfl (any_of HT_.out (by kernel_rfl)) (fun _ _ _ h => h) (Or.inl ⟨by rfl, ?_⟩) ?_ ?_
       rotate_left
       ·intro w'
        go_simp
        with_reducible rfl
       rotate_left
       ·simp only [Act.put, sA_, sB_, sC_, i64_w, i32_w]
        rfl
       refine take_ (i := 11) (N := some 39) (v := ?_) (a' := ?_) #[true, true, true, true, true, true, true, true, true, true, true, true, false, false, false, false, false] rfl rfl (take_ofW HT_.out HW_.out (by kernel_rfl)) (fun _ _ _ h => h) (Or.inl ⟨by rfl, ?_⟩) hHeld ?_ ?_
       rotate_left
       ·rintro w' ⟨s0, s1, s2, s3, s4, s5, s6, s7⟩
        go_simp
        with_reducible rfl
       rotate_left
       ·simp only [Act.put, sA_, sB_, sC_, i64_w, i32_w]
        rfl
       refine take_ (i := 13) (N := some 41) (v := ?_) (a' := ?_) #[true, true, true, true, true, true, true, true, true, true, true, true, false, true, false, false, false] rfl rfl (take_ofW HT_.out HW_.out (by kernel_rfl)) (fun _ _ _ h => h) (Or.inl ⟨by rfl, ?_⟩) hHeld ?_ ?_
       rotate_left
       ·rintro w' ⟨s0, s1, s2, s3, s4, s5, s6, s7⟩
        go_simp
        with_reducible rfl
       rotate_left
       ·simp only [Act.put, sA_, sB_, sC_, i64_w, i32_w]
        rfl
       refine one_ (i := 12) (N := some 40) #[true, true, true, true, true, true, true, true, true, true, true, true, true, true, false, false, false] rfl rfl (one_of HT_.out (by kernel_rfl)) (by decide) (fun K hK => ?_)
       refine goes_ Try.func36 (by kernel_rfl) rfl #[.agg #[.int .i64 a0_0, .int .i64 a0_1, .int .i64 a0_2, .string a0_3, .int .i64 a0_4, .bool a0_5]] (by rfl) rfl rfl kz10_3 ?_
       with_reducible refine (outbox_Formed.calls a0_0 a0_1 a0_2 a0_3 a0_4 a0_5 t438 _ A16.out).mono ?_
       rintro e w27 ⟨rfl, hb⟩
       refine ⟨_, rfl, ?_⟩
       have n0_ := Aside0.mk (Kd.R_below kz10_4 hb)
       have n1_ := Aside0.mk (Kd.R_below kz10_5 hb)
       have n2_ := Aside0.mk (blk_below (g := gb427) (o := .cells #[.int .i64 a0_0, .int .i64 a0_1, .int .i64 a0_2, .string a0_3, .int .i64 a0_4, .bool a0_5] 28 (0, 0)) kz10_2 hb)
       have n3_ := Aside0.mk (below_step kz10_1 hb)
       clear HO432
       clear HO436
       clear BK427
       clear HB
       have HO432 := n0_
       have HO436 := n1_
       have BK427 := n2_
       have HB := n3_
       clear n0_ n1_ n2_ n3_
       (try clear hb)
       (try clear hb2)
       (try clear hk)
       (try clear hi)
       refine hK.out _ _ ⟨(blk_cell BK427.out 0).trans rfl, (blk_cell BK427.out 1).trans rfl, (blk_cell BK427.out 2).trans rfl, (blk_cell BK427.out 3).trans rfl, (blk_cell BK427.out 4).trans rfl, (blk_cell BK427.out 5).trans rfl, own_string (P := Try.prog) Try.underlying50 Try.underlying5 Try.underlying9 (Kd.own_of_R HO432.out), own_string (P := Try.prog) Try.underlying50 Try.underlying5 Try.underlying9 (Kd.own_of_R HO436.out)⟩ (fun hHeld => ?_)
       clear hK K
       refine norm_ (a' := ?_) ?_ ?_
       rotate_left
       ·show Act.put _ (some 40) _ = _
        simp only [Act.put, sA_, sB_, sC_, i64_w, i32_w]
        rfl
       refine one_ (i := 14) (N := some 42) #[true, true, true, true, true, true, true, true, true, true, true, true, true, true, true, false, false] rfl rfl (one_of HT_.out (by kernel_rfl)) (by decide) (fun K hK => ?_)
       refine goes_ Try.func37 (by kernel_rfl) rfl #[.agg #[.int .i64 a0_0, .int .i64 a0_1, .int .i64 a0_2, .string a0_3, .int .i64 a0_4, .bool a0_5]] (by rfl) rfl rfl kz10_3 ?_
       with_reducible refine (tumbrelref18_Formed.calls a0_0 a0_1 a0_2 a0_3 a0_4 a0_5 t439 _ A17.out).mono ?_
       rintro e w28 ⟨rfl, hb⟩
       refine ⟨_, rfl, ?_⟩
       have n0_ := Aside0.mk (Kd.R_below kz10_4 hb)
       have n1_ := Aside0.mk (Kd.R_below kz10_5 hb)
       have n2_ := Aside0.mk (blk_below (g := gb427) (o := .cells #[.int .i64 a0_0, .int .i64 a0_1, .int .i64 a0_2, .string a0_3, .int .i64 a0_4, .bool a0_5] 28 (0, 0)) kz10_2 hb)
       have n3_ := Aside0.mk (below_step kz10_1 hb)
       clear HO432
       clear HO436
       clear BK427
       clear HB
       have HO432 := n0_
       have HO436 := n1_
       have BK427 := n2_
       have HB := n3_
       clear n0_ n1_ n2_ n3_
       (try clear hb)
       (try clear hb2)
       (try clear hk)
       (try clear hi)
       refine hK.out _ _ ⟨(blk_cell BK427.out 0).trans rfl, (blk_cell BK427.out 1).trans rfl, (blk_cell BK427.out 2).trans rfl, (blk_cell BK427.out 3).trans rfl, (blk_cell BK427.out 4).trans rfl, (blk_cell BK427.out 5).trans rfl, own_string (P := Try.prog) Try.underlying50 Try.underlying5 Try.underlying9 (Kd.own_of_R HO432.out), own_string (P := Try.prog) Try.underlying50 Try.underlying5 Try.underlying9 (Kd.own_of_R HO436.out)⟩ (fun hHeld => ?_)
       clear hK K
       refine norm_ (a' := ?_) ?_ ?_
       rotate_left
       ·show Act.put _ (some 42) _ = _
        simp only [Act.put, sA_, sB_, sC_, i64_w, i32_w]
        rfl
       refine pure_ (i := 15) (N := some 43) (v := ?_) (a' := ?_) #[true, true, true, true, true, true, true, true, true, true, true, true, true, true, true, true, false] rfl rfl (any_of HT_.out (by kernel_rfl)) (fun _ _ _ h => h) (Or.inl ⟨by rfl, ?_⟩) ?_ ?_
       rotate_left
       ·intro w'
        go_simp
        with_reducible rfl
       rotate_left
       ·simp only [Act.put, sA_, sB_, sC_, i64_w, i32_w]
        rfl
       refine pure_ (i := 16) (N := some 44) (v := ?_) (a' := ?_) #[true, true, true, true, true, true, true, true, true, true, true, true, true, true, true, true, true] rfl rfl (any_of HT_.out (by kernel_rfl)) (fun _ _ _ h => h) (Or.inl ⟨by rfl, ?_⟩) ?_ ?_
       rotate_left
       ·intro w'
        go_simp
        with_reducible rfl
       rotate_left
       ·simp only [Act.put, sA_, sB_, sC_, i64_w, i32_w]
        rfl
       refine done_ (done_of HT_.out (by kernel_rfl)) ?_
       try go_wp2
       go_ret
       exact ⟨by first | rfl | (simp [errW_none, errW_some] <;> rfl) | (simp [*, errW_none, errW_some] <;> rfl), by repeat (first | (with_reducible first | exact HB.out | apply below_alloc | apply pw_below_drewN | apply below_drew1 | refine below_set ?_ GE427.out) | exact HB.out)⟩
      ·rw [if_neg c18] at H
       have c18b0 : (t438 != t439) = false := by simpa using c18
       (try (have c18b1 : decide (t438 = t439) = true := by simpa using c18))
       (try (have c18b2 : (t438 == t439) = true := by simpa using c18))
       clear c18
       replace H := Option.bind_eq_some_iff.mp H
       obtain ⟨⟨t440, t441, t442, t443, t444, t445, t446⟩, A290, H⟩ := H
       replace H : (if t433 = 0 then (if t446 = 0 then (some (t440 == a0_0 && (t441 == a0_1 && (t442 == a0_2 && (t443.toList == a0_3.toList && (t444 == a0_4 && (t445 == a0_5))))))) else (some false)) else (some true)) = some r := H
       have A29 := Aside0.mk A290
       clear A290
       by_cases c30 : t433 = 0
       ·rw [if_pos c30] at H
        have c30b0 : (t433 == 0) = true := beq_iff_eq.mpr c30
        have c30b1 : (t433 != 0) = false := bne_eq_false_iff_eq.mpr c30
        clear c30
        by_cases c31 : t446 = 0
        ·rw [if_pos c31] at H
         have c31b0 : (t446 == 0) = true := beq_iff_eq.mpr c31
         have c31b1 : (t446 != 0) = false := bne_eq_false_iff_eq.mpr c31
         clear c31
         obtain rfl := Option.some.inj H
         have hcz32_0 : wc.cell? ⟨gb427, 0, none⟩ = some (.int .i64 a0_0) := (blk_cell BK427.out 0).trans rfl
         have hcz32_1 : wc.cell? ⟨gb427, 1, none⟩ = some (.int .i64 a0_1) := (blk_cell BK427.out 1).trans rfl
         have hcz32_2 : wc.cell? ⟨gb427, 2, none⟩ = some (.int .i64 a0_2) := (blk_cell BK427.out 2).trans rfl
         have hcz32_3 : wc.cell? ⟨gb427, 3, none⟩ = some (.string a0_3) := (blk_cell BK427.out 3).trans rfl
         have hcz32_4 : wc.cell? ⟨gb427, 4, none⟩ = some (.int .i64 a0_4) := (blk_cell BK427.out 4).trans rfl
         have hcz32_5 : wc.cell? ⟨gb427, 5, none⟩ = some (.bool a0_5) := (blk_cell BK427.out 5).trans rfl
         have hfz32_0 := blk_frozen BK427.out 0
         have hfz32_1 := blk_frozen BK427.out 1
         have hfz32_2 := blk_frozen BK427.out 2
         have hfz32_3 := blk_frozen BK427.out 3
         have hfz32_4 := blk_frozen BK427.out 4
         have hfz32_5 := blk_frozen BK427.out 5
         try go_wp2_with (first | ((with_reducible refine gate_callee (f := 34) rfl ?_); refine goesL_ (some 20) rfl rfl Try.func34 (by kernel_rfl) rfl #[.agg #[.int .i64 a0_0, .int .i64 a0_1, .int .i64 a0_2, .string a0_3, .int .i64 a0_4, .bool a0_5]] rfl kz10_3 ?_; (with_reducible refine (outbox_Encode.calls kj1 a0_0 a0_1 a0_2 a0_3 a0_4 a0_5 t430 t433 _ A12.out).mono ?_); rintro e w33 ⟨v431, rfl, ho0, hb⟩; refine ⟨_, rfl, ?_⟩; have n0_ := Aside0.mk (Kd.R_lower ho0 (below_size kz10_1)); have n1_ := Aside0.mk (blk_below (g := gb427) (o := .cells #[.int .i64 a0_0, .int .i64 a0_1, .int .i64 a0_2, .string a0_3, .int .i64 a0_4, .bool a0_5] 28 (0, 0)) kz10_2 hb); have n2_ := Aside0.mk (below_step kz10_1 hb); clear BK427; clear HB; have HO432 := n0_; have BK427 := n1_; have HB := n2_; clear n0_ n1_ n2_; (try clear hb); (try clear hb2); (try clear hk); (try clear hi); (try clear ho0); have hcz34_0 : w33.cell? ⟨gb427, 0, none⟩ = some (.int .i64 a0_0) := (blk_cell BK427.out 0).trans rfl; have hcz34_1 : w33.cell? ⟨gb427, 1, none⟩ = some (.int .i64 a0_1) := (blk_cell BK427.out 1).trans rfl; have hcz34_2 : w33.cell? ⟨gb427, 2, none⟩ = some (.int .i64 a0_2) := (blk_cell BK427.out 2).trans rfl; have hcz34_3 : w33.cell? ⟨gb427, 3, none⟩ = some (.string a0_3) := (blk_cell BK427.out 3).trans rfl; have hcz34_4 : w33.cell? ⟨gb427, 4, none⟩ = some (.int .i64 a0_4) := (blk_cell BK427.out 4).trans rfl; have hcz34_5 : w33.cell? ⟨gb427, 5, none⟩ = some (.bool a0_5) := (blk_cell BK427.out 5).trans rfl; have hfz34_0 := blk_frozen BK427.out 0; have hfz34_1 := blk_frozen BK427.out 1; have hfz34_2 := blk_frozen BK427.out 2; have hfz34_3 := blk_frozen BK427.out 3; have hfz34_4 := blk_frozen BK427.out 4; have hfz34_5 := blk_frozen BK427.out 5) | ((with_reducible refine gate_callee (f := 35) rfl ?_); refine goesL_ (some 25) rfl rfl Try.func35 (by kernel_rfl) rfl #[.agg #[.int .i64 a0_0, .int .i64 a0_1, .int .i64 a0_2, .string a0_3, .int .i64 a0_4, .bool a0_5]] rfl kz10_3 ?_; (with_reducible refine (tumbrelref18_Encode.calls kj1 a0_0 a0_1 a0_2 a0_3 a0_4 a0_5 t434 t437 _ A13.out).mono ?_); rintro e w35 ⟨v435, rfl, ho0, hb⟩; refine ⟨_, rfl, ?_⟩; have n0_ := Aside0.mk (Kd.R_elder' kz10_4 (Kd.R_base ho0) hb); have n1_ := Aside0.mk (Kd.R_lower (Kd.R_new' ho0 (Kd.R_lt kz10_4)) (below_size kz10_1)); have n2_ := Aside0.mk (blk_below (g := gb427) (o := .cells #[.int .i64 a0_0, .int .i64 a0_1, .int .i64 a0_2, .string a0_3, .int .i64 a0_4, .bool a0_5] 28 (0, 0)) kz10_2 hb); have n3_ := Aside0.mk (below_step kz10_1 hb); clear HO432; clear BK427; clear HB; have HO432 := n0_; have HO436 := n1_; have BK427 := n2_; have HB := n3_; clear n0_ n1_ n2_ n3_; (try clear hb); (try clear hb2); (try clear hk); (try clear hi); (try clear ho0)))
         have n0_ := Aside0.mk (Kd.R_drew HO432.out)
         have n1_ := Aside0.mk (Kd.R_drew HO436.out)
         have n2_ := Aside0.mk (blk_drew BK427.out)
         have n3_ := Aside0.mk (below_drew1 HB.out)
         clear HO432
         clear HO436
         clear BK427
         clear HB
         have HO432 := n0_
         have HO436 := n1_
         have BK427 := n2_
         have HB := n3_
         clear n0_ n1_ n2_ n3_
         have hcv37 := own_string (P := Try.prog) Try.underlying50 Try.underlying5 Try.underlying9 (Kd.own_of_R HO432.out)
         have hcv38 := own_string (P := Try.prog) Try.underlying50 Try.underlying5 Try.underlying9 (Kd.own_of_R HO436.out)
         refine start_ (n := 17) (S := fun w' => w'.cell? ⟨gb427, 0, none⟩ = some (.int .i64 a0_0) ∧ w'.cell? ⟨gb427, 1, none⟩ = some (.int .i64 a0_1) ∧ w'.cell? ⟨gb427, 2, none⟩ = some (.int .i64 a0_2) ∧ w'.cell? ⟨gb427, 3, none⟩ = some (.string a0_3) ∧ w'.cell? ⟨gb427, 4, none⟩ = some (.int .i64 a0_4) ∧ w'.cell? ⟨gb427, 5, none⟩ = some (.bool a0_5) ∧ (convert 50 9 v431).run Try.prog w' = .ok (.string (strOfNums t430)) w' ∧ (convert 50 9 v435).run Try.prog w' = .ok (.string (strOfNums t434)) w') (ds := []) #[false, false, false, false, false, false, false, false, false, false, false, false, false, false, false, false, false] (by kernel_rfl) rfl rfl ⟨(blk_cell BK427.out 0).trans rfl, (blk_cell BK427.out 1).trans rfl, (blk_cell BK427.out 2).trans rfl, (blk_cell BK427.out 3).trans rfl, (blk_cell BK427.out 4).trans rfl, (blk_cell BK427.out 5).trans rfl, hcv37, hcv38⟩ (fun hHeld => ?_); refine with_tabW tumbrellaw18_OutboxEncodes.tab5 tumbrellaw18_OutboxEncodes.bits5 (fun HT_ HW_ => ?_)
         generalize w35.drew = w36 at HO432 HO436 BK427 HB hHeld ⊢
         refine pure_ (i := 0) (N := some 28) (v := ?_) (a' := ?_) #[true, false, false, false, false, false, false, false, false, false, false, false, false, false, false, false, false] rfl rfl (any_of HT_.out (by kernel_rfl)) (fun _ _ _ h => h) (Or.inl ⟨by rfl, ?_⟩) ?_ ?_
         rotate_left
         ·intro w'
          go_simp
          with_reducible rfl
         rotate_left
         ·simp only [Act.put, sA_, sB_, sC_, i64_w, i32_w]
          rfl
         refine take_ (i := 1) (N := some 29) (v := ?_) (a' := ?_) #[true, true, false, false, false, false, false, false, false, false, false, false, false, false, false, false, false] rfl rfl (take_ofW HT_.out HW_.out (by kernel_rfl)) (fun _ _ _ h => h) (Or.inl ⟨by rfl, ?_⟩) hHeld ?_ ?_
         rotate_left
         ·rintro w' ⟨s0, s1, s2, s3, s4, s5, s6, s7⟩
          go_simp
          with_reducible rfl
         rotate_left
         ·simp only [Act.put, sA_, sB_, sC_, i64_w, i32_w]
          rfl
         refine pure_ (i := 2) (N := some 30) (v := ?_) (a' := ?_) #[true, true, true, false, false, false, false, false, false, false, false, false, false, false, false, false, false] rfl rfl (any_of HT_.out (by kernel_rfl)) (fun _ _ _ h => h) (Or.inl ⟨by rfl, ?_⟩) ?_ ?_
         rotate_left
         ·intro w'
          go_simp
          with_reducible rfl
         rotate_left
         ·simp only [Act.put, sA_, sB_, sC_, i64_w, i32_w]
          rfl
         refine take_ (i := 3) (N := some 31) (v := ?_) (a' := ?_) #[true, true, true, true, false, false, false, false, false, false, false, false, false, false, false, false, false] rfl rfl (take_ofW HT_.out HW_.out (by kernel_rfl)) (fun _ _ _ h => h) (Or.inl ⟨by rfl, ?_⟩) hHeld ?_ ?_
         rotate_left
         ·rintro w' ⟨s0, s1, s2, s3, s4, s5, s6, s7⟩
          go_simp
          with_reducible rfl
         rotate_left
         ·simp only [Act.put, sA_, sB_, sC_, i64_w, i32_w]
          rfl
         refine pure_ (i := 4) (N := some 32) (v := ?_) (a' := ?_) #[true, true, true, true, true, false, false, false, false, false, false, false, false, false, false, false, false] rfl rfl (any_of HT_.out (by kernel_rfl)) (fun _ _ _ h => h) (Or.inl ⟨by rfl, ?_⟩) ?_ ?_
         rotate_left
         ·intro w'
          go_simp
          with_reducible rfl
         rotate_left
         ·simp only [Act.put, sA_, sB_, sC_, i64_w, i32_w]
          rfl
         refine pure_ (i := 5) (N := some 33) (v := ?_) (a' := ?_) #[true, true, true, true, true, true, false, false, false, false, false, false, false, false, false, false, false] rfl rfl (any_of HT_.out (by kernel_rfl)) (fun _ _ _ h => h) (Or.inl ⟨by rfl, ?_⟩) ?_ ?_
         rotate_left
         ·intro w'
          go_simp
          with_reducible rfl
         rotate_left
         ·simp only [Act.put, sA_, sB_, sC_, i64_w, i32_w]
          rfl
         refine pure_ (i := 6) (N := some 34) (v := ?_) (a' := ?_) #[true, true, true, true, true, true, true, false, false, false, false, false, false, false, false, false, false] rfl rfl (any_of HT_.out (by kernel_rfl)) (fun _ _ _ h => h) (Or.inl ⟨by rfl, ?_⟩) ?_ ?_
         rotate_left
         ·intro w'
          go_simp
          with_reducible rfl
         rotate_left
         ·simp only [Act.put, sA_, sB_, sC_, i64_w, i32_w]
          rfl
         refine pure_ (i := 7) (N := some 35) (v := ?_) (a' := ?_) #[true, true, true, true, true, true, true, true, false, false, false, false, false, false, false, false, false] rfl rfl (any_of HT_.out (by kernel_rfl)) (fun _ _ _ h => h) (Or.inl ⟨by rfl, ?_⟩) ?_ ?_
         rotate_left
         ·intro w'
          go_simp
          with_reducible rfl
         rotate_left
         ·simp only [Act.put, sA_, sB_, sC_, i64_w, i32_w]
          rfl
         refine pure_ (i := 8) (N := some 36) (v := ?_) (a' := ?_) #[true, true, true, true, true, true, true, true, true, false, false, false, false, false, false, false, false] rfl rfl (any_of HT_.out (by kernel_rfl)) (fun _ _ _ h => h) (Or.inl ⟨by rfl, ?_⟩) ?_ ?_
         rotate_left
         ·intro w'
          go_simp
          with_reducible rfl
         rotate_left
         ·simp only [Act.put, sA_, sB_, sC_, i64_w, i32_w]
          rfl
         refine pure_ (i := 9) (N := some 37) (v := ?_) (a' := ?_) #[true, true, true, true, true, true, true, true, true, true, false, false, false, false, false, false, false] rfl rfl (any_of HT_.out (by kernel_rfl)) (fun _ _ _ h => h) (Or.inl ⟨by rfl, ?_⟩) ?_ ?_
         rotate_left
         ·intro w'
          go_simp
          with_reducible rfl
         rotate_left
         ·simp only [Act.put, sA_, sB_, sC_, i64_w, i32_w]
          rfl
         refine pure_ (i := 10) (N := some 38) (v := ?_) (a' := ?_) #[true, true, true, true, true, true, true, true, true, true, true, false, false, false, false, false, false] rfl rfl (any_of HT_.out (by kernel_rfl)) (fun _ _ _ h => h) (Or.inl ⟨by rfl, ?_⟩) ?_ ?_
         rotate_left
         ·intro w'
          go_simp
          with_reducible rfl
         rotate_left
         ·simp only [Act.put, sA_, sB_, sC_, i64_w, i32_w]
          rfl
         refine take_ (i := 11) (N := some 39) (v := ?_) (a' := ?_) #[true, true, true, true, true, true, true, true, true, true, true, true, false, false, false, false, false] rfl rfl (take_ofW HT_.out HW_.out (by kernel_rfl)) (fun _ _ _ h => h) (Or.inl ⟨by rfl, ?_⟩) hHeld ?_ ?_
         rotate_left
         ·rintro w' ⟨s0, s1, s2, s3, s4, s5, s6, s7⟩
          go_simp
          with_reducible rfl
         rotate_left
         ·simp only [Act.put, sA_, sB_, sC_, i64_w, i32_w]
          rfl
         refine take_ (i := 13) (N := some 41) (v := ?_) (a' := ?_) #[true, true, true, true, true, true, true, true, true, true, true, true, false, true, false, false, false] rfl rfl (take_ofW HT_.out HW_.out (by kernel_rfl)) (fun _ _ _ h => h) (Or.inl ⟨by rfl, ?_⟩) hHeld ?_ ?_
         rotate_left
         ·rintro w' ⟨s0, s1, s2, s3, s4, s5, s6, s7⟩
          go_simp
          with_reducible rfl
         rotate_left
         ·simp only [Act.put, sA_, sB_, sC_, i64_w, i32_w]
          rfl
         refine one_ (i := 12) (N := some 40) #[true, true, true, true, true, true, true, true, true, true, true, true, true, true, false, false, false] rfl rfl (one_of HT_.out (by kernel_rfl)) (by decide) (fun K hK => ?_)
         refine goes_ Try.func36 (by kernel_rfl) rfl #[.agg #[.int .i64 a0_0, .int .i64 a0_1, .int .i64 a0_2, .string a0_3, .int .i64 a0_4, .bool a0_5]] (by rfl) rfl rfl kz10_3 ?_
         with_reducible refine (outbox_Formed.calls a0_0 a0_1 a0_2 a0_3 a0_4 a0_5 t438 _ A16.out).mono ?_
         rintro e w40 ⟨rfl, hb⟩
         refine ⟨_, rfl, ?_⟩
         have n0_ := Aside0.mk (Kd.R_below kz10_4 hb)
         have n1_ := Aside0.mk (Kd.R_below kz10_5 hb)
         have n2_ := Aside0.mk (blk_below (g := gb427) (o := .cells #[.int .i64 a0_0, .int .i64 a0_1, .int .i64 a0_2, .string a0_3, .int .i64 a0_4, .bool a0_5] 28 (0, 0)) kz10_2 hb)
         have n3_ := Aside0.mk (below_step kz10_1 hb)
         clear HO432
         clear HO436
         clear BK427
         clear HB
         have HO432 := n0_
         have HO436 := n1_
         have BK427 := n2_
         have HB := n3_
         clear n0_ n1_ n2_ n3_
         (try clear hb)
         (try clear hb2)
         (try clear hk)
         (try clear hi)
         refine hK.out _ _ ⟨(blk_cell BK427.out 0).trans rfl, (blk_cell BK427.out 1).trans rfl, (blk_cell BK427.out 2).trans rfl, (blk_cell BK427.out 3).trans rfl, (blk_cell BK427.out 4).trans rfl, (blk_cell BK427.out 5).trans rfl, own_string (P := Try.prog) Try.underlying50 Try.underlying5 Try.underlying9 (Kd.own_of_R HO432.out), own_string (P := Try.prog) Try.underlying50 Try.underlying5 Try.underlying9 (Kd.own_of_R HO436.out)⟩ (fun hHeld => ?_)
         clear hK K
         refine norm_ (a' := ?_) ?_ ?_
         rotate_left
         ·show Act.put _ (some 40) _ = _
          simp only [Act.put, sA_, sB_, sC_, i64_w, i32_w]
          rfl
         refine one_ (i := 14) (N := some 42) #[true, true, true, true, true, true, true, true, true, true, true, true, true, true, true, false, false] rfl rfl (one_of HT_.out (by kernel_rfl)) (by decide) (fun K hK => ?_)
         refine goes_ Try.func37 (by kernel_rfl) rfl #[.agg #[.int .i64 a0_0, .int .i64 a0_1, .int .i64 a0_2, .string a0_3, .int .i64 a0_4, .bool a0_5]] (by rfl) rfl rfl kz10_3 ?_
         with_reducible refine (tumbrelref18_Formed.calls a0_0 a0_1 a0_2 a0_3 a0_4 a0_5 t439 _ A17.out).mono ?_
         rintro e w41 ⟨rfl, hb⟩
         refine ⟨_, rfl, ?_⟩
         have n0_ := Aside0.mk (Kd.R_below kz10_4 hb)
         have n1_ := Aside0.mk (Kd.R_below kz10_5 hb)
         have n2_ := Aside0.mk (blk_below (g := gb427) (o := .cells #[.int .i64 a0_0, .int .i64 a0_1, .int .i64 a0_2, .string a0_3, .int .i64 a0_4, .bool a0_5] 28 (0, 0)) kz10_2 hb)
         have n3_ := Aside0.mk (below_step kz10_1 hb)
         clear HO432
         clear HO436
         clear BK427
         clear HB
         have HO432 := n0_
         have HO436 := n1_
         have BK427 := n2_
         have HB := n3_
         clear n0_ n1_ n2_ n3_
         (try clear hb)
         (try clear hb2)
         (try clear hk)
         (try clear hi)
         refine hK.out _ _ ⟨(blk_cell BK427.out 0).trans rfl, (blk_cell BK427.out 1).trans rfl, (blk_cell BK427.out 2).trans rfl, (blk_cell BK427.out 3).trans rfl, (blk_cell BK427.out 4).trans rfl, (blk_cell BK427.out 5).trans rfl, own_string (P := Try.prog) Try.underlying50 Try.underlying5 Try.underlying9 (Kd.own_of_R HO432.out), own_string (P := Try.prog) Try.underlying50 Try.underlying5 Try.underlying9 (Kd.own_of_R HO436.out)⟩ (fun hHeld => ?_)
         clear hK K
         refine norm_ (a' := ?_) ?_ ?_
         rotate_left
         ·show Act.put _ (some 42) _ = _
          simp only [Act.put, sA_, sB_, sC_, i64_w, i32_w]
          rfl
         refine pure_ (i := 15) (N := some 43) (v := ?_) (a' := ?_) #[true, true, true, true, true, true, true, true, true, true, true, true, true, true, true, true, false] rfl rfl (any_of HT_.out (by kernel_rfl)) (fun _ _ _ h => h) (Or.inl ⟨by rfl, ?_⟩) ?_ ?_
         rotate_left
         ·intro w'
          go_simp
          with_reducible rfl
         rotate_left
         ·simp only [Act.put, sA_, sB_, sC_, i64_w, i32_w]
          rfl
         refine pure_ (i := 16) (N := some 44) (v := ?_) (a' := ?_) #[true, true, true, true, true, true, true, true, true, true, true, true, true, true, true, true, true] rfl rfl (any_of HT_.out (by kernel_rfl)) (fun _ _ _ h => h) (Or.inl ⟨by rfl, ?_⟩) ?_ ?_
         rotate_left
         ·intro w'
          go_simp
          with_reducible rfl
         rotate_left
         ·simp only [Act.put, sA_, sB_, sC_, i64_w, i32_w]
          rfl
         refine done_ (done_of HT_.out (by kernel_rfl)) ?_
         obtain ⟨Ao42, co42, eo42⟩ := Kd.R_slice HO432.out
         subst eo42
         try go_wp2_with (first | ((with_reducible refine gate_callee (f := 38) rfl ?_); refine goesL_ (some 47) rfl rfl Try.func38 (by kernel_rfl) rfl #[.slice Ao42 t430.length co42] rfl kz10_3 ?_; (with_reducible refine (outbox_Decode.calls kj1 _ _ t430 t440 t441 t442 t443 t444 t445 t446 _ ?side1 ?side2 A29.out).mono ?_); (case side1 => repeat (first | exact (Kd.R_reads' HO432.out).2.2 | (with_reducible refine Kd.C_alloc ?_ _) | (with_reducible refine Kd.C_drewN ?_ _) | (with_reducible refine Kd.C_drew ?_))); (case side2 => exact (Kd.R_reads' HO432.out).2.1); rintro e w43 ⟨rfl, hb⟩; refine ⟨_, rfl, ?_⟩; have n0_ := Aside0.mk (Kd.R_below kz10_4 hb); have n1_ := Aside0.mk (Kd.R_below kz10_5 hb); have n2_ := Aside0.mk (blk_below (g := gb427) (o := .cells #[.int .i64 a0_0, .int .i64 a0_1, .int .i64 a0_2, .string a0_3, .int .i64 a0_4, .bool a0_5] 28 (0, 0)) kz10_2 hb); have n3_ := Aside0.mk (below_step kz10_1 hb); clear HO432; clear HO436; clear BK427; clear HB; have HO432 := n0_; have HO436 := n1_; have BK427 := n2_; have HB := n3_; clear n0_ n1_ n2_ n3_; (try clear hb); (try clear hb2); (try clear hk); (try clear hi)) | ((with_reducible refine gate_dst (N := 7) rfl ?_); (try (refine gate_guard (by rfl) ?_; dsimp only)); refine box_event ?hg (N := 7) ?hd (cs := #[.int .i64 0, .int .i64 0, .int .i64 0, .string (⟨#[]⟩ : ByteArray), .int .i64 0, .bool false]) (t := 28) ?hr ?_; (case hd => rfl); (case hg => rfl); (case hr => first | (go_simp; done) | (go_simp; rfl)); intro gb447 hg w44 hbox hb; have n0_ := Aside0.mk (Kd.R_below kz10_4 hb); have n1_ := Aside0.mk (Kd.R_below kz10_5 hb); have n2_ := Aside0.mk (blk_below (g := gb427) (o := .cells #[.int .i64 a0_0, .int .i64 a0_1, .int .i64 a0_2, .string a0_3, .int .i64 a0_4, .bool a0_5] 28 (0, 0)) kz10_2 hb); have n3_ := Aside0.mk (below_step kz10_1 hb); have n4_ := Aside0.mk (hbox); have n5_ := Aside0.mk ((by rw [hg]; exact (below_size kz10_1) : w.heap.size ≤ gb447)); have n6_ := Aside0.mk ((by rw [hg]; exact (below_size kz10_1) : w.heap.size ≤ gb447)); have n7_ := Aside0.mk ((by rw [hg]; exact Nat.ne_of_lt (blk_lt (g := gb427) (o := .cells #[.int .i64 a0_0, .int .i64 a0_1, .int .i64 a0_2, .string a0_3, .int .i64 a0_4, .bool a0_5] 28 (0, 0)) kz10_2) : gb427 ≠ gb447)); have n8_ := Aside0.mk ((by rw [hg]; exact Nat.ne_of_gt (blk_lt (g := gb427) (o := .cells #[.int .i64 a0_0, .int .i64 a0_1, .int .i64 a0_2, .string a0_3, .int .i64 a0_4, .bool a0_5] 28 (0, 0)) kz10_2) : gb447 ≠ gb427)); clear HO432; clear HO436; clear BK427; clear HB; have HO432 := n0_; have HO436 := n1_; have BK427 := n2_; have HB := n3_; have BK447 := n4_; have GW447 := n5_; have GE447 := n6_; have NB427_447 := n7_; have NB447_427 := n8_; clear n0_ n1_ n2_ n3_ n4_ n5_ n6_ n7_ n8_; clear hb hbox hg; have hnb45 := NB447_427.out; have hnc45 := NB427_447.out; have hcz46_0 : w44.cell? ⟨gb447, 0, none⟩ = some (.int .i64 0) := (blk_cell BK447.out 0).trans rfl; have hcz46_1 : w44.cell? ⟨gb447, 1, none⟩ = some (.int .i64 0) := (blk_cell BK447.out 1).trans rfl; have hcz46_2 : w44.cell? ⟨gb447, 2, none⟩ = some (.int .i64 0) := (blk_cell BK447.out 2).trans rfl; have hcz46_3 : w44.cell? ⟨gb447, 3, none⟩ = some (.string (⟨#[]⟩ : ByteArray)) := (blk_cell BK447.out 3).trans rfl; have hcz46_4 : w44.cell? ⟨gb447, 4, none⟩ = some (.int .i64 0) := (blk_cell BK447.out 4).trans rfl; have hcz46_5 : w44.cell? ⟨gb447, 5, none⟩ = some (.bool false) := (blk_cell BK447.out 5).trans rfl; have hfz46_0 := blk_frozen BK447.out 0; have hfz46_1 := blk_frozen BK447.out 1; have hfz46_2 := blk_frozen BK447.out 2; have hfz46_3 := blk_frozen BK447.out 3; have hfz46_4 := blk_frozen BK447.out 4; have hfz46_5 := blk_frozen BK447.out 5; have hcz47_0 : w44.cell? ⟨gb427, 0, none⟩ = some (.int .i64 a0_0) := (blk_cell BK427.out 0).trans rfl; have hcz47_1 : w44.cell? ⟨gb427, 1, none⟩ = some (.int .i64 a0_1) := (blk_cell BK427.out 1).trans rfl; have hcz47_2 : w44.cell? ⟨gb427, 2, none⟩ = some (.int .i64 a0_2) := (blk_cell BK427.out 2).trans rfl; have hcz47_3 : w44.cell? ⟨gb427, 3, none⟩ = some (.string a0_3) := (blk_cell BK427.out 3).trans rfl; have hcz47_4 : w44.cell? ⟨gb427, 4, none⟩ = some (.int .i64 a0_4) := (blk_cell BK427.out 4).trans rfl; have hcz47_5 : w44.cell? ⟨gb427, 5, none⟩ = some (.bool a0_5) := (blk_cell BK427.out 5).trans rfl; have hfz47_0 := blk_frozen BK427.out 0; have hfz47_1 := blk_frozen BK427.out 1; have hfz47_2 := blk_frozen BK427.out 2; have hfz47_3 := blk_frozen BK427.out 3; have hfz47_4 := blk_frozen BK427.out 4; have hfz47_5 := blk_frozen BK427.out 5))
         go_ret
         exact ⟨by first | rfl | (simp [errW_none, errW_some] <;> rfl) | (simp [*, errW_none, errW_some] <;> rfl), by repeat (first | (with_reducible first | exact HB.out | apply below_alloc | apply pw_below_drewN | apply below_drew1 | refine below_set ?_ GE427.out | refine below_set ?_ GE447.out) | exact HB.out)⟩
        ·rw [if_neg c31] at H
         have c31b0 : (t446 == 0) = false := beq_eq_false_iff_ne.mpr c31
         have c31b1 : (t446 != 0) = true := bne_iff_ne.mpr c31
         obtain rfl := Option.some.inj H
         have hcz48_0 : wc.cell? ⟨gb427, 0, none⟩ = some (.int .i64 a0_0) := (blk_cell BK427.out 0).trans rfl
         have hcz48_1 : wc.cell? ⟨gb427, 1, none⟩ = some (.int .i64 a0_1) := (blk_cell BK427.out 1).trans rfl
         have hcz48_2 : wc.cell? ⟨gb427, 2, none⟩ = some (.int .i64 a0_2) := (blk_cell BK427.out 2).trans rfl
         have hcz48_3 : wc.cell? ⟨gb427, 3, none⟩ = some (.string a0_3) := (blk_cell BK427.out 3).trans rfl
         have hcz48_4 : wc.cell? ⟨gb427, 4, none⟩ = some (.int .i64 a0_4) := (blk_cell BK427.out 4).trans rfl
         have hcz48_5 : wc.cell? ⟨gb427, 5, none⟩ = some (.bool a0_5) := (blk_cell BK427.out 5).trans rfl
         have hfz48_0 := blk_frozen BK427.out 0
         have hfz48_1 := blk_frozen BK427.out 1
         have hfz48_2 := blk_frozen BK427.out 2
         have hfz48_3 := blk_frozen BK427.out 3
         have hfz48_4 := blk_frozen BK427.out 4
         have hfz48_5 := blk_frozen BK427.out 5
         try go_wp2_with (first | ((with_reducible refine gate_callee (f := 34) rfl ?_); refine goesL_ (some 20) rfl rfl Try.func34 (by kernel_rfl) rfl #[.agg #[.int .i64 a0_0, .int .i64 a0_1, .int .i64 a0_2, .string a0_3, .int .i64 a0_4, .bool a0_5]] rfl kz10_3 ?_; (with_reducible refine (outbox_Encode.calls kj1 a0_0 a0_1 a0_2 a0_3 a0_4 a0_5 t430 t433 _ A12.out).mono ?_); rintro e w49 ⟨v431, rfl, ho0, hb⟩; refine ⟨_, rfl, ?_⟩; have n0_ := Aside0.mk (Kd.R_lower ho0 (below_size kz10_1)); have n1_ := Aside0.mk (blk_below (g := gb427) (o := .cells #[.int .i64 a0_0, .int .i64 a0_1, .int .i64 a0_2, .string a0_3, .int .i64 a0_4, .bool a0_5] 28 (0, 0)) kz10_2 hb); have n2_ := Aside0.mk (below_step kz10_1 hb); clear BK427; clear HB; have HO432 := n0_; have BK427 := n1_; have HB := n2_; clear n0_ n1_ n2_; (try clear hb); (try clear hb2); (try clear hk); (try clear hi); (try clear ho0); have hcz50_0 : w49.cell? ⟨gb427, 0, none⟩ = some (.int .i64 a0_0) := (blk_cell BK427.out 0).trans rfl; have hcz50_1 : w49.cell? ⟨gb427, 1, none⟩ = some (.int .i64 a0_1) := (blk_cell BK427.out 1).trans rfl; have hcz50_2 : w49.cell? ⟨gb427, 2, none⟩ = some (.int .i64 a0_2) := (blk_cell BK427.out 2).trans rfl; have hcz50_3 : w49.cell? ⟨gb427, 3, none⟩ = some (.string a0_3) := (blk_cell BK427.out 3).trans rfl; have hcz50_4 : w49.cell? ⟨gb427, 4, none⟩ = some (.int .i64 a0_4) := (blk_cell BK427.out 4).trans rfl; have hcz50_5 : w49.cell? ⟨gb427, 5, none⟩ = some (.bool a0_5) := (blk_cell BK427.out 5).trans rfl; have hfz50_0 := blk_frozen BK427.out 0; have hfz50_1 := blk_frozen BK427.out 1; have hfz50_2 := blk_frozen BK427.out 2; have hfz50_3 := blk_frozen BK427.out 3; have hfz50_4 := blk_frozen BK427.out 4; have hfz50_5 := blk_frozen BK427.out 5) | ((with_reducible refine gate_callee (f := 35) rfl ?_); refine goesL_ (some 25) rfl rfl Try.func35 (by kernel_rfl) rfl #[.agg #[.int .i64 a0_0, .int .i64 a0_1, .int .i64 a0_2, .string a0_3, .int .i64 a0_4, .bool a0_5]] rfl kz10_3 ?_; (with_reducible refine (tumbrelref18_Encode.calls kj1 a0_0 a0_1 a0_2 a0_3 a0_4 a0_5 t434 t437 _ A13.out).mono ?_); rintro e w51 ⟨v435, rfl, ho0, hb⟩; refine ⟨_, rfl, ?_⟩; have n0_ := Aside0.mk (Kd.R_elder' kz10_4 (Kd.R_base ho0) hb); have n1_ := Aside0.mk (Kd.R_lower (Kd.R_new' ho0 (Kd.R_lt kz10_4)) (below_size kz10_1)); have n2_ := Aside0.mk (blk_below (g := gb427) (o := .cells #[.int .i64 a0_0, .int .i64 a0_1, .int .i64 a0_2, .string a0_3, .int .i64 a0_4, .bool a0_5] 28 (0, 0)) kz10_2 hb); have n3_ := Aside0.mk (below_step kz10_1 hb); clear HO432; clear BK427; clear HB; have HO432 := n0_; have HO436 := n1_; have BK427 := n2_; have HB := n3_; clear n0_ n1_ n2_ n3_; (try clear hb); (try clear hb2); (try clear hk); (try clear hi); (try clear ho0)))
         have n0_ := Aside0.mk (Kd.R_drew HO432.out)
         have n1_ := Aside0.mk (Kd.R_drew HO436.out)
         have n2_ := Aside0.mk (blk_drew BK427.out)
         have n3_ := Aside0.mk (below_drew1 HB.out)
         clear HO432
         clear HO436
         clear BK427
         clear HB
         have HO432 := n0_
         have HO436 := n1_
         have BK427 := n2_
         have HB := n3_
         clear n0_ n1_ n2_ n3_
         have hcv53 := own_string (P := Try.prog) Try.underlying50 Try.underlying5 Try.underlying9 (Kd.own_of_R HO432.out)
         have hcv54 := own_string (P := Try.prog) Try.underlying50 Try.underlying5 Try.underlying9 (Kd.own_of_R HO436.out)
         refine start_ (n := 17) (S := fun w' => w'.cell? ⟨gb427, 0, none⟩ = some (.int .i64 a0_0) ∧ w'.cell? ⟨gb427, 1, none⟩ = some (.int .i64 a0_1) ∧ w'.cell? ⟨gb427, 2, none⟩ = some (.int .i64 a0_2) ∧ w'.cell? ⟨gb427, 3, none⟩ = some (.string a0_3) ∧ w'.cell? ⟨gb427, 4, none⟩ = some (.int .i64 a0_4) ∧ w'.cell? ⟨gb427, 5, none⟩ = some (.bool a0_5) ∧ (convert 50 9 v431).run Try.prog w' = .ok (.string (strOfNums t430)) w' ∧ (convert 50 9 v435).run Try.prog w' = .ok (.string (strOfNums t434)) w') (ds := []) #[false, false, false, false, false, false, false, false, false, false, false, false, false, false, false, false, false] (by kernel_rfl) rfl rfl ⟨(blk_cell BK427.out 0).trans rfl, (blk_cell BK427.out 1).trans rfl, (blk_cell BK427.out 2).trans rfl, (blk_cell BK427.out 3).trans rfl, (blk_cell BK427.out 4).trans rfl, (blk_cell BK427.out 5).trans rfl, hcv53, hcv54⟩ (fun hHeld => ?_); refine with_tabW tumbrellaw18_OutboxEncodes.tab5 tumbrellaw18_OutboxEncodes.bits5 (fun HT_ HW_ => ?_)
         generalize w51.drew = w52 at HO432 HO436 BK427 HB hHeld ⊢
         refine pure_ (i := 0) (N := some 28) (v := ?_) (a' := ?_) #[true, false, false, false, false, false, false, false, false, false, false, false, false, false, false, false, false] rfl rfl (any_of HT_.out (by kernel_rfl)) (fun _ _ _ h => h) (Or.inl ⟨by rfl, ?_⟩) ?_ ?_
         rotate_left
         ·intro w'
          go_simp
          with_reducible rfl
         rotate_left
         ·simp only [Act.put, sA_, sB_, sC_, i64_w, i32_w]
          rfl
         refine take_ (i := 1) (N := some 29) (v := ?_) (a' := ?_) #[true, true, false, false, false, false, false, false, false, false, false, false, false, false, false, false, false] rfl rfl (take_ofW HT_.out HW_.out (by kernel_rfl)) (fun _ _ _ h => h) (Or.inl ⟨by rfl, ?_⟩) hHeld ?_ ?_
         rotate_left
         ·rintro w' ⟨s0, s1, s2, s3, s4, s5, s6, s7⟩
          go_simp
          with_reducible rfl
         rotate_left
         ·simp only [Act.put, sA_, sB_, sC_, i64_w, i32_w]
          rfl
         refine pure_ (i := 2) (N := some 30) (v := ?_) (a' := ?_) #[true, true, true, false, false, false, false, false, false, false, false, false, false, false, false, false, false] rfl rfl (any_of HT_.out (by kernel_rfl)) (fun _ _ _ h => h) (Or.inl ⟨by rfl, ?_⟩) ?_ ?_
         rotate_left
         ·intro w'
          go_simp
          with_reducible rfl
         rotate_left
         ·simp only [Act.put, sA_, sB_, sC_, i64_w, i32_w]
          rfl
         refine take_ (i := 3) (N := some 31) (v := ?_) (a' := ?_) #[true, true, true, true, false, false, false, false, false, false, false, false, false, false, false, false, false] rfl rfl (take_ofW HT_.out HW_.out (by kernel_rfl)) (fun _ _ _ h => h) (Or.inl ⟨by rfl, ?_⟩) hHeld ?_ ?_
         rotate_left
         ·rintro w' ⟨s0, s1, s2, s3, s4, s5, s6, s7⟩
          go_simp
          with_reducible rfl
         rotate_left
         ·simp only [Act.put, sA_, sB_, sC_, i64_w, i32_w]
          rfl
         refine pure_ (i := 4) (N := some 32) (v := ?_) (a' := ?_) #[true, true, true, true, true, false, false, false, false, false, false, false, false, false, false, false, false] rfl rfl (any_of HT_.out (by kernel_rfl)) (fun _ _ _ h => h) (Or.inl ⟨by rfl, ?_⟩) ?_ ?_
         rotate_left
         ·intro w'
          go_simp
          with_reducible rfl
         rotate_left
         ·simp only [Act.put, sA_, sB_, sC_, i64_w, i32_w]
          rfl
         refine pure_ (i := 5) (N := some 33) (v := ?_) (a' := ?_) #[true, true, true, true, true, true, false, false, false, false, false, false, false, false, false, false, false] rfl rfl (any_of HT_.out (by kernel_rfl)) (fun _ _ _ h => h) (Or.inl ⟨by rfl, ?_⟩) ?_ ?_
         rotate_left
         ·intro w'
          go_simp
          with_reducible rfl
         rotate_left
         ·simp only [Act.put, sA_, sB_, sC_, i64_w, i32_w]
          rfl
         refine pure_ (i := 6) (N := some 34) (v := ?_) (a' := ?_) #[true, true, true, true, true, true, true, false, false, false, false, false, false, false, false, false, false] rfl rfl (any_of HT_.out (by kernel_rfl)) (fun _ _ _ h => h) (Or.inl ⟨by rfl, ?_⟩) ?_ ?_
         rotate_left
         ·intro w'
          go_simp
          with_reducible rfl
         rotate_left
         ·simp only [Act.put, sA_, sB_, sC_, i64_w, i32_w]
          rfl
         refine pure_ (i := 7) (N := some 35) (v := ?_) (a' := ?_) #[true, true, true, true, true, true, true, true, false, false, false, false, false, false, false, false, false] rfl rfl (any_of HT_.out (by kernel_rfl)) (fun _ _ _ h => h) (Or.inl ⟨by rfl, ?_⟩) ?_ ?_
         rotate_left
         ·intro w'
          go_simp
          with_reducible rfl
         rotate_left
         ·simp only [Act.put, sA_, sB_, sC_, i64_w, i32_w]
          rfl
         refine pure_ (i := 8) (N := some 36) (v := ?_) (a' := ?_) #[true, true, true, true, true, true, true, true, true, false, false, false, false, false, false, false, false] rfl rfl (any_of HT_.out (by kernel_rfl)) (fun _ _ _ h => h) (Or.inl ⟨by rfl, ?_⟩) ?_ ?_
         rotate_left
         ·intro w'
          go_simp
          with_reducible rfl
         rotate_left
         ·simp only [Act.put, sA_, sB_, sC_, i64_w, i32_w]
          rfl
         refine pure_ (i := 9) (N := some 37) (v := ?_) (a' := ?_) #[true, true, true, true, true, true, true, true, true, true, false, false, false, false, false, false, false] rfl rfl (any_of HT_.out (by kernel_rfl)) (fun _ _ _ h => h) (Or.inl ⟨by rfl, ?_⟩) ?_ ?_
         rotate_left
         ·intro w'
          go_simp
          with_reducible rfl
         rotate_left
         ·simp only [Act.put, sA_, sB_, sC_, i64_w, i32_w]
          rfl
         refine pure_ (i := 10) (N := some 38) (v := ?_) (a' := ?_) #[true, true, true, true, true, true, true, true, true, true, true, false, false, false, false, false, false] rfl rfl (any_of HT_.out (by kernel_rfl)) (fun _ _ _ h => h) (Or.inl ⟨by rfl, ?_⟩) ?_ ?_
         rotate_left
         ·intro w'
          go_simp
          with_reducible rfl
         rotate_left
         ·simp only [Act.put, sA_, sB_, sC_, i64_w, i32_w]
          rfl
         refine take_ (i := 11) (N := some 39) (v := ?_) (a' := ?_) #[true, true, true, true, true, true, true, true, true, true, true, true, false, false, false, false, false] rfl rfl (take_ofW HT_.out HW_.out (by kernel_rfl)) (fun _ _ _ h => h) (Or.inl ⟨by rfl, ?_⟩) hHeld ?_ ?_
         rotate_left
         ·rintro w' ⟨s0, s1, s2, s3, s4, s5, s6, s7⟩
          go_simp
          with_reducible rfl
         rotate_left
         ·simp only [Act.put, sA_, sB_, sC_, i64_w, i32_w]
          rfl
         refine take_ (i := 13) (N := some 41) (v := ?_) (a' := ?_) #[true, true, true, true, true, true, true, true, true, true, true, true, false, true, false, false, false] rfl rfl (take_ofW HT_.out HW_.out (by kernel_rfl)) (fun _ _ _ h => h) (Or.inl ⟨by rfl, ?_⟩) hHeld ?_ ?_
         rotate_left
         ·rintro w' ⟨s0, s1, s2, s3, s4, s5, s6, s7⟩
          go_simp
          with_reducible rfl
         rotate_left
         ·simp only [Act.put, sA_, sB_, sC_, i64_w, i32_w]
          rfl
         refine one_ (i := 12) (N := some 40) #[true, true, true, true, true, true, true, true, true, true, true, true, true, true, false, false, false] rfl rfl (one_of HT_.out (by kernel_rfl)) (by decide) (fun K hK => ?_)
         refine goes_ Try.func36 (by kernel_rfl) rfl #[.agg #[.int .i64 a0_0, .int .i64 a0_1, .int .i64 a0_2, .string a0_3, .int .i64 a0_4, .bool a0_5]] (by rfl) rfl rfl kz10_3 ?_
         with_reducible refine (outbox_Formed.calls a0_0 a0_1 a0_2 a0_3 a0_4 a0_5 t438 _ A16.out).mono ?_
         rintro e w56 ⟨rfl, hb⟩
         refine ⟨_, rfl, ?_⟩
         have n0_ := Aside0.mk (Kd.R_below kz10_4 hb)
         have n1_ := Aside0.mk (Kd.R_below kz10_5 hb)
         have n2_ := Aside0.mk (blk_below (g := gb427) (o := .cells #[.int .i64 a0_0, .int .i64 a0_1, .int .i64 a0_2, .string a0_3, .int .i64 a0_4, .bool a0_5] 28 (0, 0)) kz10_2 hb)
         have n3_ := Aside0.mk (below_step kz10_1 hb)
         clear HO432
         clear HO436
         clear BK427
         clear HB
         have HO432 := n0_
         have HO436 := n1_
         have BK427 := n2_
         have HB := n3_
         clear n0_ n1_ n2_ n3_
         (try clear hb)
         (try clear hb2)
         (try clear hk)
         (try clear hi)
         refine hK.out _ _ ⟨(blk_cell BK427.out 0).trans rfl, (blk_cell BK427.out 1).trans rfl, (blk_cell BK427.out 2).trans rfl, (blk_cell BK427.out 3).trans rfl, (blk_cell BK427.out 4).trans rfl, (blk_cell BK427.out 5).trans rfl, own_string (P := Try.prog) Try.underlying50 Try.underlying5 Try.underlying9 (Kd.own_of_R HO432.out), own_string (P := Try.prog) Try.underlying50 Try.underlying5 Try.underlying9 (Kd.own_of_R HO436.out)⟩ (fun hHeld => ?_)
         clear hK K
         refine norm_ (a' := ?_) ?_ ?_
         rotate_left
         ·show Act.put _ (some 40) _ = _
          simp only [Act.put, sA_, sB_, sC_, i64_w, i32_w]
          rfl
         refine one_ (i := 14) (N := some 42) #[true, true, true, true, true, true, true, true, true, true, true, true, true, true, true, false, false] rfl rfl (one_of HT_.out (by kernel_rfl)) (by decide) (fun K hK => ?_)
         refine goes_ Try.func37 (by kernel_rfl) rfl #[.agg #[.int .i64 a0_0, .int .i64 a0_1, .int .i64 a0_2, .string a0_3, .int .i64 a0_4, .bool a0_5]] (by rfl) rfl rfl kz10_3 ?_
         with_reducible refine (tumbrelref18_Formed.calls a0_0 a0_1 a0_2 a0_3 a0_4 a0_5 t439 _ A17.out).mono ?_
         rintro e w57 ⟨rfl, hb⟩
         refine ⟨_, rfl, ?_⟩
         have n0_ := Aside0.mk (Kd.R_below kz10_4 hb)
         have n1_ := Aside0.mk (Kd.R_below kz10_5 hb)
         have n2_ := Aside0.mk (blk_below (g := gb427) (o := .cells #[.int .i64 a0_0, .int .i64 a0_1, .int .i64 a0_2, .string a0_3, .int .i64 a0_4, .bool a0_5] 28 (0, 0)) kz10_2 hb)
         have n3_ := Aside0.mk (below_step kz10_1 hb)
         clear HO432
         clear HO436
         clear BK427
         clear HB
         have HO432 := n0_
         have HO436 := n1_
         have BK427 := n2_
         have HB := n3_
         clear n0_ n1_ n2_ n3_
         (try clear hb)
         (try clear hb2)
         (try clear hk)
         (try clear hi)
         refine hK.out _ _ ⟨(blk_cell BK427.out 0).trans rfl, (blk_cell BK427.out 1).trans rfl, (blk_cell BK427.out 2).trans rfl, (blk_cell BK427.out 3).trans rfl, (blk_cell BK427.out 4).trans rfl, (blk_cell BK427.out 5).trans rfl, own_string (P := Try.prog) Try.underlying50 Try.underlying5 Try.underlying9 (Kd.own_of_R HO432.out), own_string (P := Try.prog) Try.underlying50 Try.underlying5 Try.underlying9 (Kd.own_of_R HO436.out)⟩ (fun hHeld => ?_)
         clear hK K
         refine norm_ (a' := ?_) ?_ ?_
         rotate_left
         ·show Act.put _ (some 42) _ = _
          simp only [Act.put, sA_, sB_, sC_, i64_w, i32_w]
          rfl
         refine pure_ (i := 15) (N := some 43) (v := ?_) (a' := ?_) #[true, true, true, true, true, true, true, true, true, true, true, true, true, true, true, true, false] rfl rfl (any_of HT_.out (by kernel_rfl)) (fun _ _ _ h => h) (Or.inl ⟨by rfl, ?_⟩) ?_ ?_
         rotate_left
         ·intro w'
          go_simp
          with_reducible rfl
         rotate_left
         ·simp only [Act.put, sA_, sB_, sC_, i64_w, i32_w]
          rfl
         refine pure_ (i := 16) (N := some 44) (v := ?_) (a' := ?_) #[true, true, true, true, true, true, true, true, true, true, true, true, true, true, true, true, true] rfl rfl (any_of HT_.out (by kernel_rfl)) (fun _ _ _ h => h) (Or.inl ⟨by rfl, ?_⟩) ?_ ?_
         rotate_left
         ·intro w'
          go_simp
          with_reducible rfl
         rotate_left
         ·simp only [Act.put, sA_, sB_, sC_, i64_w, i32_w]
          rfl
         refine done_ (done_of HT_.out (by kernel_rfl)) ?_
         obtain ⟨Ao58, co58, eo58⟩ := Kd.R_slice HO432.out
         subst eo58
         try go_wp2_with (first | ((with_reducible refine gate_callee (f := 38) rfl ?_); refine goesL_ (some 47) rfl rfl Try.func38 (by kernel_rfl) rfl #[.slice Ao58 t430.length co58] rfl kz10_3 ?_; (with_reducible refine (outbox_Decode.calls kj1 _ _ t430 t440 t441 t442 t443 t444 t445 t446 _ ?side1 ?side2 A29.out).mono ?_); (case side1 => repeat (first | exact (Kd.R_reads' HO432.out).2.2 | (with_reducible refine Kd.C_alloc ?_ _) | (with_reducible refine Kd.C_drewN ?_ _) | (with_reducible refine Kd.C_drew ?_))); (case side2 => exact (Kd.R_reads' HO432.out).2.1); rintro e w59 ⟨rfl, hb⟩; refine ⟨_, rfl, ?_⟩; have n0_ := Aside0.mk (Kd.R_below kz10_4 hb); have n1_ := Aside0.mk (Kd.R_below kz10_5 hb); have n2_ := Aside0.mk (blk_below (g := gb427) (o := .cells #[.int .i64 a0_0, .int .i64 a0_1, .int .i64 a0_2, .string a0_3, .int .i64 a0_4, .bool a0_5] 28 (0, 0)) kz10_2 hb); have n3_ := Aside0.mk (below_step kz10_1 hb); clear HO432; clear HO436; clear BK427; clear HB; have HO432 := n0_; have HO436 := n1_; have BK427 := n2_; have HB := n3_; clear n0_ n1_ n2_ n3_; (try clear hb); (try clear hb2); (try clear hk); (try clear hi)) | ((with_reducible refine gate_dst (N := 7) rfl ?_); (try (refine gate_guard (by rfl) ?_; dsimp only)); refine box_event ?hg (N := 7) ?hd (cs := #[.int .i64 0, .int .i64 0, .int .i64 0, .string (⟨#[]⟩ : ByteArray), .int .i64 0, .bool false]) (t := 28) ?hr ?_; (case hd => rfl); (case hg => rfl); (case hr => first | (go_simp; done) | (go_simp; rfl)); intro gb447 hg w60 hbox hb; have n0_ := Aside0.mk (Kd.R_below kz10_4 hb); have n1_ := Aside0.mk (Kd.R_below kz10_5 hb); have n2_ := Aside0.mk (blk_below (g := gb427) (o := .cells #[.int .i64 a0_0, .int .i64 a0_1, .int .i64 a0_2, .string a0_3, .int .i64 a0_4, .bool a0_5] 28 (0, 0)) kz10_2 hb); have n3_ := Aside0.mk (below_step kz10_1 hb); have n4_ := Aside0.mk (hbox); have n5_ := Aside0.mk ((by rw [hg]; exact (below_size kz10_1) : w.heap.size ≤ gb447)); have n6_ := Aside0.mk ((by rw [hg]; exact (below_size kz10_1) : w.heap.size ≤ gb447)); have n7_ := Aside0.mk ((by rw [hg]; exact Nat.ne_of_lt (blk_lt (g := gb427) (o := .cells #[.int .i64 a0_0, .int .i64 a0_1, .int .i64 a0_2, .string a0_3, .int .i64 a0_4, .bool a0_5] 28 (0, 0)) kz10_2) : gb427 ≠ gb447)); have n8_ := Aside0.mk ((by rw [hg]; exact Nat.ne_of_gt (blk_lt (g := gb427) (o := .cells #[.int .i64 a0_0, .int .i64 a0_1, .int .i64 a0_2, .string a0_3, .int .i64 a0_4, .bool a0_5] 28 (0, 0)) kz10_2) : gb447 ≠ gb427)); clear HO432; clear HO436; clear BK427; clear HB; have HO432 := n0_; have HO436 := n1_; have BK427 := n2_; have HB := n3_; have BK447 := n4_; have GW447 := n5_; have GE447 := n6_; have NB427_447 := n7_; have NB447_427 := n8_; clear n0_ n1_ n2_ n3_ n4_ n5_ n6_ n7_ n8_; clear hb hbox hg; have hnb61 := NB447_427.out; have hnc61 := NB427_447.out; have hcz62_0 : w60.cell? ⟨gb447, 0, none⟩ = some (.int .i64 0) := (blk_cell BK447.out 0).trans rfl; have hcz62_1 : w60.cell? ⟨gb447, 1, none⟩ = some (.int .i64 0) := (blk_cell BK447.out 1).trans rfl; have hcz62_2 : w60.cell? ⟨gb447, 2, none⟩ = some (.int .i64 0) := (blk_cell BK447.out 2).trans rfl; have hcz62_3 : w60.cell? ⟨gb447, 3, none⟩ = some (.string (⟨#[]⟩ : ByteArray)) := (blk_cell BK447.out 3).trans rfl; have hcz62_4 : w60.cell? ⟨gb447, 4, none⟩ = some (.int .i64 0) := (blk_cell BK447.out 4).trans rfl; have hcz62_5 : w60.cell? ⟨gb447, 5, none⟩ = some (.bool false) := (blk_cell BK447.out 5).trans rfl; have hfz62_0 := blk_frozen BK447.out 0; have hfz62_1 := blk_frozen BK447.out 1; have hfz62_2 := blk_frozen BK447.out 2; have hfz62_3 := blk_frozen BK447.out 3; have hfz62_4 := blk_frozen BK447.out 4; have hfz62_5 := blk_frozen BK447.out 5))
         go_ret
         exact ⟨by first | rfl | (simp [errW_none, errW_some] <;> rfl) | (simp [*, errW_none, errW_some] <;> rfl), by repeat (first | (with_reducible first | exact HB.out | apply below_alloc | apply pw_below_drewN | apply below_drew1 | refine below_set ?_ GE427.out | refine below_set ?_ GE447.out) | exact HB.out)⟩
       ·rw [if_neg c30] at H
        have c30b0 : (t433 == 0) = false := beq_eq_false_iff_ne.mpr c30
        have c30b1 : (t433 != 0) = true := bne_iff_ne.mpr c30
        obtain rfl := Option.some.inj H
        have hcz63_0 : wc.cell? ⟨gb427, 0, none⟩ = some (.int .i64 a0_0) := (blk_cell BK427.out 0).trans rfl
        have hcz63_1 : wc.cell? ⟨gb427, 1, none⟩ = some (.int .i64 a0_1) := (blk_cell BK427.out 1).trans rfl
        have hcz63_2 : wc.cell? ⟨gb427, 2, none⟩ = some (.int .i64 a0_2) := (blk_cell BK427.out 2).trans rfl
        have hcz63_3 : wc.cell? ⟨gb427, 3, none⟩ = some (.string a0_3) := (blk_cell BK427.out 3).trans rfl
        have hcz63_4 : wc.cell? ⟨gb427, 4, none⟩ = some (.int .i64 a0_4) := (blk_cell BK427.out 4).trans rfl
        have hcz63_5 : wc.cell? ⟨gb427, 5, none⟩ = some (.bool a0_5) := (blk_cell BK427.out 5).trans rfl
        have hfz63_0 := blk_frozen BK427.out 0
        have hfz63_1 := blk_frozen BK427.out 1
        have hfz63_2 := blk_frozen BK427.out 2
        have hfz63_3 := blk_frozen BK427.out 3
        have hfz63_4 := blk_frozen BK427.out 4
        have hfz63_5 := blk_frozen BK427.out 5
        try go_wp2_with (first | ((with_reducible refine gate_callee (f := 34) rfl ?_); refine goesL_ (some 20) rfl rfl Try.func34 (by kernel_rfl) rfl #[.agg #[.int .i64 a0_0, .int .i64 a0_1, .int .i64 a0_2, .string a0_3, .int .i64 a0_4, .bool a0_5]] rfl kz10_3 ?_; (with_reducible refine (outbox_Encode.calls kj1 a0_0 a0_1 a0_2 a0_3 a0_4 a0_5 t430 t433 _ A12.out).mono ?_); rintro e w64 ⟨v431, rfl, ho0, hb⟩; refine ⟨_, rfl, ?_⟩; have n0_ := Aside0.mk (Kd.R_lower ho0 (below_size kz10_1)); have n1_ := Aside0.mk (blk_below (g := gb427) (o := .cells #[.int .i64 a0_0, .int .i64 a0_1, .int .i64 a0_2, .string a0_3, .int .i64 a0_4, .bool a0_5] 28 (0, 0)) kz10_2 hb); have n2_ := Aside0.mk (below_step kz10_1 hb); clear BK427; clear HB; have HO432 := n0_; have BK427 := n1_; have HB := n2_; clear n0_ n1_ n2_; (try clear hb); (try clear hb2); (try clear hk); (try clear hi); (try clear ho0); have hcz65_0 : w64.cell? ⟨gb427, 0, none⟩ = some (.int .i64 a0_0) := (blk_cell BK427.out 0).trans rfl; have hcz65_1 : w64.cell? ⟨gb427, 1, none⟩ = some (.int .i64 a0_1) := (blk_cell BK427.out 1).trans rfl; have hcz65_2 : w64.cell? ⟨gb427, 2, none⟩ = some (.int .i64 a0_2) := (blk_cell BK427.out 2).trans rfl; have hcz65_3 : w64.cell? ⟨gb427, 3, none⟩ = some (.string a0_3) := (blk_cell BK427.out 3).trans rfl; have hcz65_4 : w64.cell? ⟨gb427, 4, none⟩ = some (.int .i64 a0_4) := (blk_cell BK427.out 4).trans rfl; have hcz65_5 : w64.cell? ⟨gb427, 5, none⟩ = some (.bool a0_5) := (blk_cell BK427.out 5).trans rfl; have hfz65_0 := blk_frozen BK427.out 0; have hfz65_1 := blk_frozen BK427.out 1; have hfz65_2 := blk_frozen BK427.out 2; have hfz65_3 := blk_frozen BK427.out 3; have hfz65_4 := blk_frozen BK427.out 4; have hfz65_5 := blk_frozen BK427.out 5) | ((with_reducible refine gate_callee (f := 35) rfl ?_); refine goesL_ (some 25) rfl rfl Try.func35 (by kernel_rfl) rfl #[.agg #[.int .i64 a0_0, .int .i64 a0_1, .int .i64 a0_2, .string a0_3, .int .i64 a0_4, .bool a0_5]] rfl kz10_3 ?_; (with_reducible refine (tumbrelref18_Encode.calls kj1 a0_0 a0_1 a0_2 a0_3 a0_4 a0_5 t434 t437 _ A13.out).mono ?_); rintro e w66 ⟨v435, rfl, ho0, hb⟩; refine ⟨_, rfl, ?_⟩; have n0_ := Aside0.mk (Kd.R_elder' kz10_4 (Kd.R_base ho0) hb); have n1_ := Aside0.mk (Kd.R_lower (Kd.R_new' ho0 (Kd.R_lt kz10_4)) (below_size kz10_1)); have n2_ := Aside0.mk (blk_below (g := gb427) (o := .cells #[.int .i64 a0_0, .int .i64 a0_1, .int .i64 a0_2, .string a0_3, .int .i64 a0_4, .bool a0_5] 28 (0, 0)) kz10_2 hb); have n3_ := Aside0.mk (below_step kz10_1 hb); clear HO432; clear BK427; clear HB; have HO432 := n0_; have HO436 := n1_; have BK427 := n2_; have HB := n3_; clear n0_ n1_ n2_ n3_; (try clear hb); (try clear hb2); (try clear hk); (try clear hi); (try clear ho0)))
        have n0_ := Aside0.mk (Kd.R_drew HO432.out)
        have n1_ := Aside0.mk (Kd.R_drew HO436.out)
        have n2_ := Aside0.mk (blk_drew BK427.out)
        have n3_ := Aside0.mk (below_drew1 HB.out)
        clear HO432
        clear HO436
        clear BK427
        clear HB
        have HO432 := n0_
        have HO436 := n1_
        have BK427 := n2_
        have HB := n3_
        clear n0_ n1_ n2_ n3_
        have hcv68 := own_string (P := Try.prog) Try.underlying50 Try.underlying5 Try.underlying9 (Kd.own_of_R HO432.out)
        have hcv69 := own_string (P := Try.prog) Try.underlying50 Try.underlying5 Try.underlying9 (Kd.own_of_R HO436.out)
        refine start_ (n := 17) (S := fun w' => w'.cell? ⟨gb427, 0, none⟩ = some (.int .i64 a0_0) ∧ w'.cell? ⟨gb427, 1, none⟩ = some (.int .i64 a0_1) ∧ w'.cell? ⟨gb427, 2, none⟩ = some (.int .i64 a0_2) ∧ w'.cell? ⟨gb427, 3, none⟩ = some (.string a0_3) ∧ w'.cell? ⟨gb427, 4, none⟩ = some (.int .i64 a0_4) ∧ w'.cell? ⟨gb427, 5, none⟩ = some (.bool a0_5) ∧ (convert 50 9 v431).run Try.prog w' = .ok (.string (strOfNums t430)) w' ∧ (convert 50 9 v435).run Try.prog w' = .ok (.string (strOfNums t434)) w') (ds := []) #[false, false, false, false, false, false, false, false, false, false, false, false, false, false, false, false, false] (by kernel_rfl) rfl rfl ⟨(blk_cell BK427.out 0).trans rfl, (blk_cell BK427.out 1).trans rfl, (blk_cell BK427.out 2).trans rfl, (blk_cell BK427.out 3).trans rfl, (blk_cell BK427.out 4).trans rfl, (blk_cell BK427.out 5).trans rfl, hcv68, hcv69⟩ (fun hHeld => ?_); refine with_tabW tumbrellaw18_OutboxEncodes.tab5 tumbrellaw18_OutboxEncodes.bits5 (fun HT_ HW_ => ?_)
        generalize w66.drew = w67 at HO432 HO436 BK427 HB hHeld ⊢
        refine pure_ (i := 0) (N := some 28) (v := ?_) (a' := ?_) #[true, false, false, false, false, false, false, false, false, false, false, false, false, false, false, false, false] rfl rfl (any_of HT_.out (by kernel_rfl)) (fun _ _ _ h => h) (Or.inl ⟨by rfl, ?_⟩) ?_ ?_
        rotate_left
        ·intro w'
         go_simp
         with_reducible rfl
        rotate_left
        ·simp only [Act.put, sA_, sB_, sC_, i64_w, i32_w]
         rfl
        refine take_ (i := 1) (N := some 29) (v := ?_) (a' := ?_) #[true, true, false, false, false, false, false, false, false, false, false, false, false, false, false, false, false] rfl rfl (take_ofW HT_.out HW_.out (by kernel_rfl)) (fun _ _ _ h => h) (Or.inl ⟨by rfl, ?_⟩) hHeld ?_ ?_
        rotate_left
        ·rintro w' ⟨s0, s1, s2, s3, s4, s5, s6, s7⟩
         go_simp
         with_reducible rfl
        rotate_left
        ·simp only [Act.put, sA_, sB_, sC_, i64_w, i32_w]
         rfl
        refine pure_ (i := 2) (N := some 30) (v := ?_) (a' := ?_) #[true, true, true, false, false, false, false, false, false, false, false, false, false, false, false, false, false] rfl rfl (any_of HT_.out (by kernel_rfl)) (fun _ _ _ h => h) (Or.inl ⟨by rfl, ?_⟩) ?_ ?_
        rotate_left
        ·intro w'
         go_simp
         with_reducible rfl
        rotate_left
        ·simp only [Act.put, sA_, sB_, sC_, i64_w, i32_w]
         rfl
        refine take_ (i := 3) (N := some 31) (v := ?_) (a' := ?_) #[true, true, true, true, false, false, false, false, false, false, false, false, false, false, false, false, false] rfl rfl (take_ofW HT_.out HW_.out (by kernel_rfl)) (fun _ _ _ h => h) (Or.inl ⟨by rfl, ?_⟩) hHeld ?_ ?_
        rotate_left
        ·rintro w' ⟨s0, s1, s2, s3, s4, s5, s6, s7⟩
         go_simp
         with_reducible rfl
        rotate_left
        ·simp only [Act.put, sA_, sB_, sC_, i64_w, i32_w]
         rfl
        refine pure_ (i := 4) (N := some 32) (v := ?_) (a' := ?_) #[true, true, true, true, true, false, false, false, false, false, false, false, false, false, false, false, false] rfl rfl (any_of HT_.out (by kernel_rfl)) (fun _ _ _ h => h) (Or.inl ⟨by rfl, ?_⟩) ?_ ?_
        rotate_left
        ·intro w'
         go_simp
         with_reducible rfl
        rotate_left
        ·simp only [Act.put, sA_, sB_, sC_, i64_w, i32_w]
         rfl
        refine pure_ (i := 5) (N := some 33) (v := ?_) (a' := ?_) #[true, true, true, true, true, true, false, false, false, false, false, false, false, false, false, false, false] rfl rfl (any_of HT_.out (by kernel_rfl)) (fun _ _ _ h => h) (Or.inl ⟨by rfl, ?_⟩) ?_ ?_
        rotate_left
        ·intro w'
         go_simp
         with_reducible rfl
        rotate_left
        ·simp only [Act.put, sA_, sB_, sC_, i64_w, i32_w]
         rfl
        refine pure_ (i := 6) (N := some 34) (v := ?_) (a' := ?_) #[true, true, true, true, true, true, true, false, false, false, false, false, false, false, false, false, false] rfl rfl (any_of HT_.out (by kernel_rfl)) (fun _ _ _ h => h) (Or.inl ⟨by rfl, ?_⟩) ?_ ?_
        rotate_left
        ·intro w'
         go_simp
         with_reducible rfl
        rotate_left
        ·simp only [Act.put, sA_, sB_, sC_, i64_w, i32_w]
         rfl
        refine pure_ (i := 7) (N := some 35) (v := ?_) (a' := ?_) #[true, true, true, true, true, true, true, true, false, false, false, false, false, false, false, false, false] rfl rfl (any_of HT_.out (by kernel_rfl)) (fun _ _ _ h => h) (Or.inl ⟨by rfl, ?_⟩) ?_ ?_
        rotate_left
        ·intro w'
         go_simp
         with_reducible rfl
        rotate_left
        ·simp only [Act.put, sA_, sB_, sC_, i64_w, i32_w]
         rfl
        refine pure_ (i := 8) (N := some 36) (v := ?_) (a' := ?_) #[true, true, true, true, true, true, true, true, true, false, false, false, false, false, false, false, false] rfl rfl (any_of HT_.out (by kernel_rfl)) (fun _ _ _ h => h) (Or.inl ⟨by rfl, ?_⟩) ?_ ?_
        rotate_left
        ·intro w'
         go_simp
         with_reducible rfl
        rotate_left
        ·simp only [Act.put, sA_, sB_, sC_, i64_w, i32_w]
         rfl
        refine pure_ (i := 9) (N := some 37) (v := ?_) (a' := ?_) #[true, true, true, true, true, true, true, true, true, true, false, false, false, false, false, false, false] rfl rfl (any_of HT_.out (by kernel_rfl)) (fun _ _ _ h => h) (Or.inl ⟨by rfl, ?_⟩) ?_ ?_
        rotate_left
        ·intro w'
         go_simp
         with_reducible rfl
        rotate_left
        ·simp only [Act.put, sA_, sB_, sC_, i64_w, i32_w]
         rfl
        refine pure_ (i := 10) (N := some 38) (v := ?_) (a' := ?_) #[true, true, true, true, true, true, true, true, true, true, true, false, false, false, false, false, false] rfl rfl (any_of HT_.out (by kernel_rfl)) (fun _ _ _ h => h) (Or.inl ⟨by rfl, ?_⟩) ?_ ?_
        rotate_left
        ·intro w'
         go_simp
         with_reducible rfl
        rotate_left
        ·simp only [Act.put, sA_, sB_, sC_, i64_w, i32_w]
         rfl
        refine take_ (i := 11) (N := some 39) (v := ?_) (a' := ?_) #[true, true, true, true, true, true, true, true, true, true, true, true, false, false, false, false, false] rfl rfl (take_ofW HT_.out HW_.out (by kernel_rfl)) (fun _ _ _ h => h) (Or.inl ⟨by rfl, ?_⟩) hHeld ?_ ?_
        rotate_left
        ·rintro w' ⟨s0, s1, s2, s3, s4, s5, s6, s7⟩
         go_simp
         with_reducible rfl
        rotate_left
        ·simp only [Act.put, sA_, sB_, sC_, i64_w, i32_w]
         rfl
        refine take_ (i := 13) (N := some 41) (v := ?_) (a' := ?_) #[true, true, true, true, true, true, true, true, true, true, true, true, false, true, false, false, false] rfl rfl (take_ofW HT_.out HW_.out (by kernel_rfl)) (fun _ _ _ h => h) (Or.inl ⟨by rfl, ?_⟩) hHeld ?_ ?_
        rotate_left
        ·rintro w' ⟨s0, s1, s2, s3, s4, s5, s6, s7⟩
         go_simp
         with_reducible rfl
        rotate_left
        ·simp only [Act.put, sA_, sB_, sC_, i64_w, i32_w]
         rfl
        refine one_ (i := 12) (N := some 40) #[true, true, true, true, true, true, true, true, true, true, true, true, true, true, false, false, false] rfl rfl (one_of HT_.out (by kernel_rfl)) (by decide) (fun K hK => ?_)
        refine goes_ Try.func36 (by kernel_rfl) rfl #[.agg #[.int .i64 a0_0, .int .i64 a0_1, .int .i64 a0_2, .string a0_3, .int .i64 a0_4, .bool a0_5]] (by rfl) rfl rfl kz10_3 ?_
        with_reducible refine (outbox_Formed.calls a0_0 a0_1 a0_2 a0_3 a0_4 a0_5 t438 _ A16.out).mono ?_
        rintro e w71 ⟨rfl, hb⟩
        refine ⟨_, rfl, ?_⟩
        have n0_ := Aside0.mk (Kd.R_below kz10_4 hb)
        have n1_ := Aside0.mk (Kd.R_below kz10_5 hb)
        have n2_ := Aside0.mk (blk_below (g := gb427) (o := .cells #[.int .i64 a0_0, .int .i64 a0_1, .int .i64 a0_2, .string a0_3, .int .i64 a0_4, .bool a0_5] 28 (0, 0)) kz10_2 hb)
        have n3_ := Aside0.mk (below_step kz10_1 hb)
        clear HO432
        clear HO436
        clear BK427
        clear HB
        have HO432 := n0_
        have HO436 := n1_
        have BK427 := n2_
        have HB := n3_
        clear n0_ n1_ n2_ n3_
        (try clear hb)
        (try clear hb2)
        (try clear hk)
        (try clear hi)
        refine hK.out _ _ ⟨(blk_cell BK427.out 0).trans rfl, (blk_cell BK427.out 1).trans rfl, (blk_cell BK427.out 2).trans rfl, (blk_cell BK427.out 3).trans rfl, (blk_cell BK427.out 4).trans rfl, (blk_cell BK427.out 5).trans rfl, own_string (P := Try.prog) Try.underlying50 Try.underlying5 Try.underlying9 (Kd.own_of_R HO432.out), own_string (P := Try.prog) Try.underlying50 Try.underlying5 Try.underlying9 (Kd.own_of_R HO436.out)⟩ (fun hHeld => ?_)
        clear hK K
        refine norm_ (a' := ?_) ?_ ?_
        rotate_left
        ·show Act.put _ (some 40) _ = _
         simp only [Act.put, sA_, sB_, sC_, i64_w, i32_w]
         rfl
        refine one_ (i := 14) (N := some 42) #[true, true, true, true, true, true, true, true, true, true, true, true, true, true, true, false, false] rfl rfl (one_of HT_.out (by kernel_rfl)) (by decide) (fun K hK => ?_)
        refine goes_ Try.func37 (by kernel_rfl) rfl #[.agg #[.int .i64 a0_0, .int .i64 a0_1, .int .i64 a0_2, .string a0_3, .int .i64 a0_4, .bool a0_5]] (by rfl) rfl rfl kz10_3 ?_
        with_reducible refine (tumbrelref18_Formed.calls a0_0 a0_1 a0_2 a0_3 a0_4 a0_5 t439 _ A17.out).mono ?_
        rintro e w72 ⟨rfl, hb⟩
        refine ⟨_, rfl, ?_⟩
        have n0_ := Aside0.mk (Kd.R_below kz10_4 hb)
        have n1_ := Aside0.mk (Kd.R_below kz10_5 hb)
        have n2_ := Aside0.mk (blk_below (g := gb427) (o := .cells #[.int .i64 a0_0, .int .i64 a0_1, .int .i64 a0_2, .string a0_3, .int .i64 a0_4, .bool a0_5] 28 (0, 0)) kz10_2 hb)
        have n3_ := Aside0.mk (below_step kz10_1 hb)
        clear HO432
        clear HO436
        clear BK427
        clear HB
        have HO432 := n0_
        have HO436 := n1_
        have BK427 := n2_
        have HB := n3_
        clear n0_ n1_ n2_ n3_
        (try clear hb)
        (try clear hb2)
        (try clear hk)
        (try clear hi)
        refine hK.out _ _ ⟨(blk_cell BK427.out 0).trans rfl, (blk_cell BK427.out 1).trans rfl, (blk_cell BK427.out 2).trans rfl, (blk_cell BK427.out 3).trans rfl, (blk_cell BK427.out 4).trans rfl, (blk_cell BK427.out 5).trans rfl, own_string (P := Try.prog) Try.underlying50 Try.underlying5 Try.underlying9 (Kd.own_of_R HO432.out), own_string (P := Try.prog) Try.underlying50 Try.underlying5 Try.underlying9 (Kd.own_of_R HO436.out)⟩ (fun hHeld => ?_)
        clear hK K
        refine norm_ (a' := ?_) ?_ ?_
        rotate_left
        ·show Act.put _ (some 42) _ = _
         simp only [Act.put, sA_, sB_, sC_, i64_w, i32_w]
         rfl
        refine pure_ (i := 15) (N := some 43) (v := ?_) (a' := ?_) #[true, true, true, true, true, true, true, true, true, true, true, true, true, true, true, true, false] rfl rfl (any_of HT_.out (by kernel_rfl)) (fun _ _ _ h => h) (Or.inl ⟨by rfl, ?_⟩) ?_ ?_
        rotate_left
        ·intro w'
         go_simp
         with_reducible rfl
        rotate_left
        ·simp only [Act.put, sA_, sB_, sC_, i64_w, i32_w]
         rfl
        refine pure_ (i := 16) (N := some 44) (v := ?_) (a' := ?_) #[true, true, true, true, true, true, true, true, true, true, true, true, true, true, true, true, true] rfl rfl (any_of HT_.out (by kernel_rfl)) (fun _ _ _ h => h) (Or.inl ⟨by rfl, ?_⟩) ?_ ?_
        rotate_left
        ·intro w'
         go_simp
         with_reducible rfl
        rotate_left
        ·simp only [Act.put, sA_, sB_, sC_, i64_w, i32_w]
         rfl
        refine done_ (done_of HT_.out (by kernel_rfl)) ?_
        obtain ⟨Ao73, co73, eo73⟩ := Kd.R_slice HO432.out
        subst eo73
        try go_wp2_with (first | ((with_reducible refine gate_callee (f := 38) rfl ?_); refine goesL_ (some 47) rfl rfl Try.func38 (by kernel_rfl) rfl #[.slice Ao73 t430.length co73] rfl kz10_3 ?_; (with_reducible refine (outbox_Decode.calls kj1 _ _ t430 t440 t441 t442 t443 t444 t445 t446 _ ?side1 ?side2 A29.out).mono ?_); (case side1 => repeat (first | exact (Kd.R_reads' HO432.out).2.2 | (with_reducible refine Kd.C_alloc ?_ _) | (with_reducible refine Kd.C_drewN ?_ _) | (with_reducible refine Kd.C_drew ?_))); (case side2 => exact (Kd.R_reads' HO432.out).2.1); rintro e w74 ⟨rfl, hb⟩; refine ⟨_, rfl, ?_⟩; have n0_ := Aside0.mk (Kd.R_below kz10_4 hb); have n1_ := Aside0.mk (Kd.R_below kz10_5 hb); have n2_ := Aside0.mk (blk_below (g := gb427) (o := .cells #[.int .i64 a0_0, .int .i64 a0_1, .int .i64 a0_2, .string a0_3, .int .i64 a0_4, .bool a0_5] 28 (0, 0)) kz10_2 hb); have n3_ := Aside0.mk (below_step kz10_1 hb); clear HO432; clear HO436; clear BK427; clear HB; have HO432 := n0_; have HO436 := n1_; have BK427 := n2_; have HB := n3_; clear n0_ n1_ n2_ n3_; (try clear hb); (try clear hb2); (try clear hk); (try clear hi)) | ((with_reducible refine gate_dst (N := 7) rfl ?_); (try (refine gate_guard (by rfl) ?_; dsimp only)); refine box_event ?hg (N := 7) ?hd (cs := #[.int .i64 0, .int .i64 0, .int .i64 0, .string (⟨#[]⟩ : ByteArray), .int .i64 0, .bool false]) (t := 28) ?hr ?_; (case hd => rfl); (case hg => rfl); (case hr => first | (go_simp; done) | (go_simp; rfl)); intro gb447 hg w75 hbox hb; have n0_ := Aside0.mk (Kd.R_below kz10_4 hb); have n1_ := Aside0.mk (Kd.R_below kz10_5 hb); have n2_ := Aside0.mk (blk_below (g := gb427) (o := .cells #[.int .i64 a0_0, .int .i64 a0_1, .int .i64 a0_2, .string a0_3, .int .i64 a0_4, .bool a0_5] 28 (0, 0)) kz10_2 hb); have n3_ := Aside0.mk (below_step kz10_1 hb); have n4_ := Aside0.mk (hbox); have n5_ := Aside0.mk ((by rw [hg]; exact (below_size kz10_1) : w.heap.size ≤ gb447)); have n6_ := Aside0.mk ((by rw [hg]; exact (below_size kz10_1) : w.heap.size ≤ gb447)); have n7_ := Aside0.mk ((by rw [hg]; exact Nat.ne_of_lt (blk_lt (g := gb427) (o := .cells #[.int .i64 a0_0, .int .i64 a0_1, .int .i64 a0_2, .string a0_3, .int .i64 a0_4, .bool a0_5] 28 (0, 0)) kz10_2) : gb427 ≠ gb447)); have n8_ := Aside0.mk ((by rw [hg]; exact Nat.ne_of_gt (blk_lt (g := gb427) (o := .cells #[.int .i64 a0_0, .int .i64 a0_1, .int .i64 a0_2, .string a0_3, .int .i64 a0_4, .bool a0_5] 28 (0, 0)) kz10_2) : gb447 ≠ gb427)); clear HO432; clear HO436; clear BK427; clear HB; have HO432 := n0_; have HO436 := n1_; have BK427 := n2_; have HB := n3_; have BK447 := n4_; have GW447 := n5_; have GE447 := n6_; have NB427_447 := n7_; have NB447_427 := n8_; clear n0_ n1_ n2_ n3_ n4_ n5_ n6_ n7_ n8_; clear hb hbox hg; have hnb76 := NB447_427.out; have hnc76 := NB427_447.out; have hcz77_0 : w75.cell? ⟨gb447, 0, none⟩ = some (.int .i64 0) := (blk_cell BK447.out 0).trans rfl; have hcz77_1 : w75.cell? ⟨gb447, 1, none⟩ = some (.int .i64 0) := (blk_cell BK447.out 1).trans rfl; have hcz77_2 : w75.cell? ⟨gb447, 2, none⟩ = some (.int .i64 0) := (blk_cell BK447.out 2).trans rfl; have hcz77_3 : w75.cell? ⟨gb447, 3, none⟩ = some (.string (⟨#[]⟩ : ByteArray)) := (blk_cell BK447.out 3).trans rfl; have hcz77_4 : w75.cell? ⟨gb447, 4, none⟩ = some (.int .i64 0) := (blk_cell BK447.out 4).trans rfl; have hcz77_5 : w75.cell? ⟨gb447, 5, none⟩ = some (.bool false) := (blk_cell BK447.out 5).trans rfl; have hfz77_0 := blk_frozen BK447.out 0; have hfz77_1 := blk_frozen BK447.out 1; have hfz77_2 := blk_frozen BK447.out 2; have hfz77_3 := blk_frozen BK447.out 3; have hfz77_4 := blk_frozen BK447.out 4; have hfz77_5 := blk_frozen BK447.out 5))
        go_ret
        exact ⟨by first | rfl | (simp [errW_none, errW_some] <;> rfl) | (simp [*, errW_none, errW_some] <;> rfl), by repeat (first | (with_reducible first | exact HB.out | apply below_alloc | apply pw_below_drewN | apply below_drew1 | refine below_set ?_ GE427.out | refine below_set ?_ GE447.out) | exact HB.out)⟩
     ·rw [if_neg c15] at H
      have c15b0 : (t433 == t437) = false := beq_eq_false_iff_ne.mpr c15
      have c15b1 : (t433 != t437) = true := bne_iff_ne.mpr c15
      obtain rfl := Option.some.inj H
      have hcz78_0 : wc.cell? ⟨gb427, 0, none⟩ = some (.int .i64 a0_0) := (blk_cell BK427.out 0).trans rfl
      have hcz78_1 : wc.cell? ⟨gb427, 1, none⟩ = some (.int .i64 a0_1) := (blk_cell BK427.out 1).trans rfl
      have hcz78_2 : wc.cell? ⟨gb427, 2, none⟩ = some (.int .i64 a0_2) := (blk_cell BK427.out 2).trans rfl
      have hcz78_3 : wc.cell? ⟨gb427, 3, none⟩ = some (.string a0_3) := (blk_cell BK427.out 3).trans rfl
      have hcz78_4 : wc.cell? ⟨gb427, 4, none⟩ = some (.int .i64 a0_4) := (blk_cell BK427.out 4).trans rfl
      have hcz78_5 : wc.cell? ⟨gb427, 5, none⟩ = some (.bool a0_5) := (blk_cell BK427.out 5).trans rfl
      have hfz78_0 := blk_frozen BK427.out 0
      have hfz78_1 := blk_frozen BK427.out 1
      have hfz78_2 := blk_frozen BK427.out 2
      have hfz78_3 := blk_frozen BK427.out 3
      have hfz78_4 := blk_frozen BK427.out 4
      have hfz78_5 := blk_frozen BK427.out 5
      try go_wp2_with (first | ((with_reducible refine gate_callee (f := 34) rfl ?_); refine goesL_ (some 20) rfl rfl Try.func34 (by kernel_rfl) rfl #[.agg #[.int .i64 a0_0, .int .i64 a0_1, .int .i64 a0_2, .string a0_3, .int .i64 a0_4, .bool a0_5]] rfl kz10_3 ?_; (with_reducible refine (outbox_Encode.calls kj1 a0_0 a0_1 a0_2 a0_3 a0_4 a0_5 t430 t433 _ A12.out).mono ?_); rintro e w79 ⟨v431, rfl, ho0, hb⟩; refine ⟨_, rfl, ?_⟩; have n0_ := Aside0.mk (Kd.R_lower ho0 (below_size kz10_1)); have n1_ := Aside0.mk (blk_below (g := gb427) (o := .cells #[.int .i64 a0_0, .int .i64 a0_1, .int .i64 a0_2, .string a0_3, .int .i64 a0_4, .bool a0_5] 28 (0, 0)) kz10_2 hb); have n2_ := Aside0.mk (below_step kz10_1 hb); clear BK427; clear HB; have HO432 := n0_; have BK427 := n1_; have HB := n2_; clear n0_ n1_ n2_; (try clear hb); (try clear hb2); (try clear hk); (try clear hi); (try clear ho0); have hcz80_0 : w79.cell? ⟨gb427, 0, none⟩ = some (.int .i64 a0_0) := (blk_cell BK427.out 0).trans rfl; have hcz80_1 : w79.cell? ⟨gb427, 1, none⟩ = some (.int .i64 a0_1) := (blk_cell BK427.out 1).trans rfl; have hcz80_2 : w79.cell? ⟨gb427, 2, none⟩ = some (.int .i64 a0_2) := (blk_cell BK427.out 2).trans rfl; have hcz80_3 : w79.cell? ⟨gb427, 3, none⟩ = some (.string a0_3) := (blk_cell BK427.out 3).trans rfl; have hcz80_4 : w79.cell? ⟨gb427, 4, none⟩ = some (.int .i64 a0_4) := (blk_cell BK427.out 4).trans rfl; have hcz80_5 : w79.cell? ⟨gb427, 5, none⟩ = some (.bool a0_5) := (blk_cell BK427.out 5).trans rfl; have hfz80_0 := blk_frozen BK427.out 0; have hfz80_1 := blk_frozen BK427.out 1; have hfz80_2 := blk_frozen BK427.out 2; have hfz80_3 := blk_frozen BK427.out 3; have hfz80_4 := blk_frozen BK427.out 4; have hfz80_5 := blk_frozen BK427.out 5) | ((with_reducible refine gate_callee (f := 35) rfl ?_); refine goesL_ (some 25) rfl rfl Try.func35 (by kernel_rfl) rfl #[.agg #[.int .i64 a0_0, .int .i64 a0_1, .int .i64 a0_2, .string a0_3, .int .i64 a0_4, .bool a0_5]] rfl kz10_3 ?_; (with_reducible refine (tumbrelref18_Encode.calls kj1 a0_0 a0_1 a0_2 a0_3 a0_4 a0_5 t434 t437 _ A13.out).mono ?_); rintro e w81 ⟨v435, rfl, ho0, hb⟩; refine ⟨_, rfl, ?_⟩; have n0_ := Aside0.mk (Kd.R_elder' kz10_4 (Kd.R_base ho0) hb); have n1_ := Aside0.mk (Kd.R_lower (Kd.R_new' ho0 (Kd.R_lt kz10_4)) (below_size kz10_1)); have n2_ := Aside0.mk (blk_below (g := gb427) (o := .cells #[.int .i64 a0_0, .int .i64 a0_1, .int .i64 a0_2, .string a0_3, .int .i64 a0_4, .bool a0_5] 28 (0, 0)) kz10_2 hb); have n3_ := Aside0.mk (below_step kz10_1 hb); clear HO432; clear BK427; clear HB; have HO432 := n0_; have HO436 := n1_; have BK427 := n2_; have HB := n3_; clear n0_ n1_ n2_ n3_; (try clear hb); (try clear hb2); (try clear hk); (try clear hi); (try clear ho0)))
      have n0_ := Aside0.mk (Kd.R_drew HO432.out)
      have n1_ := Aside0.mk (Kd.R_drew HO436.out)
      have n2_ := Aside0.mk (blk_drew BK427.out)
      have n3_ := Aside0.mk (below_drew1 HB.out)
      clear HO432
      clear HO436
      clear BK427
      clear HB
      have HO432 := n0_
      have HO436 := n1_
      have BK427 := n2_
      have HB := n3_
      clear n0_ n1_ n2_ n3_
      have hcv83 := own_string (P := Try.prog) Try.underlying50 Try.underlying5 Try.underlying9 (Kd.own_of_R HO432.out)
      have hcv84 := own_string (P := Try.prog) Try.underlying50 Try.underlying5 Try.underlying9 (Kd.own_of_R HO436.out)
      refine start_ (n := 17) (S := fun w' => (convert 50 9 v431).run Try.prog w' = .ok (.string (strOfNums t430)) w' ∧ (convert 50 9 v435).run Try.prog w' = .ok (.string (strOfNums t434)) w') (ds := []) #[false, false, false, false, false, false, false, false, false, false, false, false, false, false, false, false, false] (by kernel_rfl) rfl rfl ⟨hcv83, hcv84⟩ (fun hHeld => ?_); refine with_tabW tumbrellaw18_OutboxEncodes.tab5 tumbrellaw18_OutboxEncodes.bits5 (fun HT_ HW_ => ?_)
      generalize w81.drew = w82 at HO432 HO436 BK427 HB hHeld ⊢
      refine pure_ (i := 0) (N := some 28) (v := ?_) (a' := ?_) #[true, false, false, false, false, false, false, false, false, false, false, false, false, false, false, false, false] rfl rfl (any_of HT_.out (by kernel_rfl)) (fun _ _ _ h => h) (Or.inl ⟨by rfl, ?_⟩) ?_ ?_
      rotate_left
      ·intro w'
       go_simp
       with_reducible rfl
      rotate_left
      ·simp only [Act.put, sA_, sB_, sC_, i64_w, i32_w]
       rfl
      refine take_ (i := 1) (N := some 29) (v := ?_) (a' := ?_) #[true, true, false, false, false, false, false, false, false, false, false, false, false, false, false, false, false] rfl rfl (take_ofW HT_.out HW_.out (by kernel_rfl)) (fun _ _ _ h => h) (Or.inl ⟨by rfl, ?_⟩) hHeld ?_ ?_
      rotate_left
      ·rintro w' ⟨s0, s1⟩
       go_simp
       with_reducible rfl
      rotate_left
      ·simp only [Act.put, sA_, sB_, sC_, i64_w, i32_w]
       rfl
      refine pure_ (i := 2) (N := some 30) (v := ?_) (a' := ?_) #[true, true, true, false, false, false, false, false, false, false, false, false, false, false, false, false, false] rfl rfl (any_of HT_.out (by kernel_rfl)) (fun _ _ _ h => h) (Or.inl ⟨by rfl, ?_⟩) ?_ ?_
      rotate_left
      ·intro w'
       go_simp
       with_reducible rfl
      rotate_left
      ·simp only [Act.put, sA_, sB_, sC_, i64_w, i32_w]
       rfl
      refine take_ (i := 3) (N := some 31) (v := ?_) (a' := ?_) #[true, true, true, true, false, false, false, false, false, false, false, false, false, false, false, false, false] rfl rfl (take_ofW HT_.out HW_.out (by kernel_rfl)) (fun _ _ _ h => h) (Or.inl ⟨by rfl, ?_⟩) hHeld ?_ ?_
      rotate_left
      ·rintro w' ⟨s0, s1⟩
       go_simp
       with_reducible rfl
      rotate_left
      ·simp only [Act.put, sA_, sB_, sC_, i64_w, i32_w]
       rfl
      refine pure_ (i := 4) (N := some 32) (v := ?_) (a' := ?_) #[true, true, true, true, true, false, false, false, false, false, false, false, false, false, false, false, false] rfl rfl (any_of HT_.out (by kernel_rfl)) (fun _ _ _ h => h) (Or.inl ⟨by rfl, ?_⟩) ?_ ?_
      rotate_left
      ·intro w'
       go_simp
       with_reducible rfl
      rotate_left
      ·simp only [Act.put, sA_, sB_, sC_, i64_w, i32_w]
       rfl
      refine pure_ (i := 5) (N := some 33) (v := ?_) (a' := ?_) #[true, true, true, true, true, true, false, false, false, false, false, false, false, false, false, false, false] rfl rfl (any_of HT_.out (by kernel_rfl)) (fun _ _ _ h => h) (Or.inl ⟨by rfl, ?_⟩) ?_ ?_
      rotate_left
      ·intro w'
       go_simp
       with_reducible rfl
      rotate_left
      ·simp only [Act.put, sA_, sB_, sC_, i64_w, i32_w]
       rfl
      refine pure_ (i := 6) (N := some 34) (v := ?_) (a' := ?_) #[true, true, true, true, true, true, true, false, false, false, false, false, false, false, false, false, false] rfl rfl (any_of HT_.out (by kernel_rfl)) (fun _ _ _ h => h) (Or.inl ⟨by rfl, ?_⟩) ?_ ?_
      rotate_left
      ·intro w'
       go_simp
       with_reducible rfl
      rotate_left
      ·simp only [Act.put, sA_, sB_, sC_, i64_w, i32_w]
       rfl
      refine pure_ (i := 7) (N := some 35) (v := ?_) (a' := ?_) #[true, true, true, true, true, true, true, true, false, false, false, false, false, false, false, false, false] rfl rfl (any_of HT_.out (by kernel_rfl)) (fun _ _ _ h => h) (Or.inl ⟨by rfl, ?_⟩) ?_ ?_
      rotate_left
      ·intro w'
       go_simp
       with_reducible rfl
      rotate_left
      ·simp only [Act.put, sA_, sB_, sC_, i64_w, i32_w]
       rfl
      refine pure_ (i := 8) (N := some 36) (v := ?_) (a' := ?_) #[true, true, true, true, true, true, true, true, true, false, false, false, false, false, false, false, false] rfl rfl (any_of HT_.out (by kernel_rfl)) (fun _ _ _ h => h) (Or.inl ⟨by rfl, ?_⟩) ?_ ?_
      rotate_left
      ·intro w'
       go_simp
       with_reducible rfl
      rotate_left
      ·simp only [Act.put, sA_, sB_, sC_, i64_w, i32_w]
       rfl
      refine pure_ (i := 9) (N := some 37) (v := ?_) (a' := ?_) #[true, true, true, true, true, true, true, true, true, true, false, false, false, false, false, false, false] rfl rfl (any_of HT_.out (by kernel_rfl)) (fun _ _ _ h => h) (Or.inl ⟨by rfl, ?_⟩) ?_ ?_
      rotate_left
      ·intro w'
       go_simp
       with_reducible rfl
      rotate_left
      ·simp only [Act.put, sA_, sB_, sC_, i64_w, i32_w]
       rfl
      refine pure_ (i := 10) (N := some 38) (v := ?_) (a' := ?_) #[true, true, true, true, true, true, true, true, true, true, true, false, false, false, false, false, false] rfl rfl (any_of HT_.out (by kernel_rfl)) (fun _ _ _ h => h) (Or.inl ⟨by rfl, ?_⟩) ?_ ?_
      rotate_left
      ·intro w'
       go_simp
       with_reducible rfl
      rotate_left
      ·simp only [Act.put, sA_, sB_, sC_, i64_w, i32_w]
       rfl
      refine pure_ (i := 11) (N := some 39) (v := undef) (a' := ?_) #[true, true, true, true, true, true, true, true, true, true, true, true, false, false, false, false, false] rfl rfl (any_of HT_.out (by kernel_rfl)) (fun _ _ _ h => h) (Or.inr ⟨by rfl, rfl⟩) ?_ ?_
      rotate_left
      ·simp only [Act.put, sA_, sB_, sC_, i64_w, i32_w]
       rfl
      refine pure_ (i := 12) (N := some 40) (v := undef) (a' := ?_) #[true, true, true, true, true, true, true, true, true, true, true, true, true, false, false, false, false] rfl rfl (any_of HT_.out (by kernel_rfl)) (fun _ _ _ h => h) (Or.inr ⟨by rfl, rfl⟩) ?_ ?_
      rotate_left
      ·simp only [Act.put, sA_, sB_, sC_, i64_w, i32_w]
       rfl
      refine pure_ (i := 13) (N := some 41) (v := undef) (a' := ?_) #[true, true, true, true, true, true, true, true, true, true, true, true, true, true, false, false, false] rfl rfl (any_of HT_.out (by kernel_rfl)) (fun _ _ _ h => h) (Or.inr ⟨by rfl, rfl⟩) ?_ ?_
      rotate_left
      ·simp only [Act.put, sA_, sB_, sC_, i64_w, i32_w]
       rfl
      refine pure_ (i := 14) (N := some 42) (v := undef) (a' := ?_) #[true, true, true, true, true, true, true, true, true, true, true, true, true, true, true, false, false] rfl rfl (any_of HT_.out (by kernel_rfl)) (fun _ _ _ h => h) (Or.inr ⟨by rfl, rfl⟩) ?_ ?_
      rotate_left
      ·simp only [Act.put, sA_, sB_, sC_, i64_w, i32_w]
       rfl
      refine pure_ (i := 15) (N := some 43) (v := undef) (a' := ?_) #[true, true, true, true, true, true, true, true, true, true, true, true, true, true, true, true, false] rfl rfl (any_of HT_.out (by kernel_rfl)) (fun _ _ _ h => h) (Or.inr ⟨by rfl, rfl⟩) ?_ ?_
      rotate_left
      ·simp only [Act.put, sA_, sB_, sC_, i64_w, i32_w]
       rfl
      refine pure_ (i := 16) (N := some 44) (v := ?_) (a' := ?_) #[true, true, true, true, true, true, true, true, true, true, true, true, true, true, true, true, true] rfl rfl (any_of HT_.out (by kernel_rfl)) (fun _ _ _ h => h) (Or.inl ⟨by rfl, ?_⟩) ?_ ?_
      rotate_left
      ·intro w'
       go_simp
       with_reducible rfl
      rotate_left
      ·simp only [Act.put, sA_, sB_, sC_, i64_w, i32_w]
       rfl
      refine done_ (done_of HT_.out (by kernel_rfl)) ?_
      try go_wp2
      go_ret
      exact ⟨by first | rfl | (simp [errW_none, errW_some] <;> rfl) | (simp [*, errW_none, errW_some] <;> rfl), by repeat (first | (with_reducible first | exact HB.out | apply below_alloc | apply pw_below_drewN | apply below_drew1 | refine below_set ?_ GE427.out) | exact HB.out)⟩
    ·rw [if_neg c14] at H
     have c14b0 : ((strOfNums t430).toList == (strOfNums t434).toList) = false := beq_eq_false_iff_ne.mpr c14
     have c14b1 : ((strOfNums t430).toList != (strOfNums t434).toList) = true := bne_iff_ne.mpr c14
     obtain rfl := Option.some.inj H
     have hcz86_0 : wc.cell? ⟨gb427, 0, none⟩ = some (.int .i64 a0_0) := (blk_cell BK427.out 0).trans rfl
     have hcz86_1 : wc.cell? ⟨gb427, 1, none⟩ = some (.int .i64 a0_1) := (blk_cell BK427.out 1).trans rfl
     have hcz86_2 : wc.cell? ⟨gb427, 2, none⟩ = some (.int .i64 a0_2) := (blk_cell BK427.out 2).trans rfl
     have hcz86_3 : wc.cell? ⟨gb427, 3, none⟩ = some (.string a0_3) := (blk_cell BK427.out 3).trans rfl
     have hcz86_4 : wc.cell? ⟨gb427, 4, none⟩ = some (.int .i64 a0_4) := (blk_cell BK427.out 4).trans rfl
     have hcz86_5 : wc.cell? ⟨gb427, 5, none⟩ = some (.bool a0_5) := (blk_cell BK427.out 5).trans rfl
     have hfz86_0 := blk_frozen BK427.out 0
     have hfz86_1 := blk_frozen BK427.out 1
     have hfz86_2 := blk_frozen BK427.out 2
     have hfz86_3 := blk_frozen BK427.out 3
     have hfz86_4 := blk_frozen BK427.out 4
     have hfz86_5 := blk_frozen BK427.out 5
     try go_wp2_with (first | ((with_reducible refine gate_callee (f := 34) rfl ?_); refine goesL_ (some 20) rfl rfl Try.func34 (by kernel_rfl) rfl #[.agg #[.int .i64 a0_0, .int .i64 a0_1, .int .i64 a0_2, .string a0_3, .int .i64 a0_4, .bool a0_5]] rfl kz10_3 ?_; (with_reducible refine (outbox_Encode.calls kj1 a0_0 a0_1 a0_2 a0_3 a0_4 a0_5 t430 t433 _ A12.out).mono ?_); rintro e w87 ⟨v431, rfl, ho0, hb⟩; refine ⟨_, rfl, ?_⟩; have n0_ := Aside0.mk (Kd.R_lower ho0 (below_size kz10_1)); have n1_ := Aside0.mk (blk_below (g := gb427) (o := .cells #[.int .i64 a0_0, .int .i64 a0_1, .int .i64 a0_2, .string a0_3, .int .i64 a0_4, .bool a0_5] 28 (0, 0)) kz10_2 hb); have n2_ := Aside0.mk (below_step kz10_1 hb); clear BK427; clear HB; have HO432 := n0_; have BK427 := n1_; have HB := n2_; clear n0_ n1_ n2_; (try clear hb); (try clear hb2); (try clear hk); (try clear hi); (try clear ho0); have hcz88_0 : w87.cell? ⟨gb427, 0, none⟩ = some (.int .i64 a0_0) := (blk_cell BK427.out 0).trans rfl; have hcz88_1 : w87.cell? ⟨gb427, 1, none⟩ = some (.int .i64 a0_1) := (blk_cell BK427.out 1).trans rfl; have hcz88_2 : w87.cell? ⟨gb427, 2, none⟩ = some (.int .i64 a0_2) := (blk_cell BK427.out 2).trans rfl; have hcz88_3 : w87.cell? ⟨gb427, 3, none⟩ = some (.string a0_3) := (blk_cell BK427.out 3).trans rfl; have hcz88_4 : w87.cell? ⟨gb427, 4, none⟩ = some (.int .i64 a0_4) := (blk_cell BK427.out 4).trans rfl; have hcz88_5 : w87.cell? ⟨gb427, 5, none⟩ = some (.bool a0_5) := (blk_cell BK427.out 5).trans rfl; have hfz88_0 := blk_frozen BK427.out 0; have hfz88_1 := blk_frozen BK427.out 1; have hfz88_2 := blk_frozen BK427.out 2; have hfz88_3 := blk_frozen BK427.out 3; have hfz88_4 := blk_frozen BK427.out 4; have hfz88_5 := blk_frozen BK427.out 5) | ((with_reducible refine gate_callee (f := 35) rfl ?_); refine goesL_ (some 25) rfl rfl Try.func35 (by kernel_rfl) rfl #[.agg #[.int .i64 a0_0, .int .i64 a0_1, .int .i64 a0_2, .string a0_3, .int .i64 a0_4, .bool a0_5]] rfl kz10_3 ?_; (with_reducible refine (tumbrelref18_Encode.calls kj1 a0_0 a0_1 a0_2 a0_3 a0_4 a0_5 t434 t437 _ A13.out).mono ?_); rintro e w89 ⟨v435, rfl, ho0, hb⟩; refine ⟨_, rfl, ?_⟩; have n0_ := Aside0.mk (Kd.R_elder' kz10_4 (Kd.R_base ho0) hb); have n1_ := Aside0.mk (Kd.R_lower (Kd.R_new' ho0 (Kd.R_lt kz10_4)) (below_size kz10_1)); have n2_ := Aside0.mk (blk_below (g := gb427) (o := .cells #[.int .i64 a0_0, .int .i64 a0_1, .int .i64 a0_2, .string a0_3, .int .i64 a0_4, .bool a0_5] 28 (0, 0)) kz10_2 hb); have n3_ := Aside0.mk (below_step kz10_1 hb); clear HO432; clear BK427; clear HB; have HO432 := n0_; have HO436 := n1_; have BK427 := n2_; have HB := n3_; clear n0_ n1_ n2_ n3_; (try clear hb); (try clear hb2); (try clear hk); (try clear hi); (try clear ho0)))
     have n0_ := Aside0.mk (Kd.R_drew HO432.out)
     have n1_ := Aside0.mk (Kd.R_drew HO436.out)
     have n2_ := Aside0.mk (blk_drew BK427.out)
     have n3_ := Aside0.mk (below_drew1 HB.out)
     clear HO432
     clear HO436
     clear BK427
     clear HB
     have HO432 := n0_
     have HO436 := n1_
     have BK427 := n2_
     have HB := n3_
     clear n0_ n1_ n2_ n3_
     have hcv91 := own_string (P := Try.prog) Try.underlying50 Try.underlying5 Try.underlying9 (Kd.own_of_R HO432.out)
     have hcv92 := own_string (P := Try.prog) Try.underlying50 Try.underlying5 Try.underlying9 (Kd.own_of_R HO436.out)
     refine start_ (n := 17) (S := fun w' => (convert 50 9 v431).run Try.prog w' = .ok (.string (strOfNums t430)) w' ∧ (convert 50 9 v435).run Try.prog w' = .ok (.string (strOfNums t434)) w') (ds := []) #[false, false, false, false, false, false, false, false, false, false, false, false, false, false, false, false, false] (by kernel_rfl) rfl rfl ⟨hcv91, hcv92⟩ (fun hHeld => ?_); refine with_tabW tumbrellaw18_OutboxEncodes.tab5 tumbrellaw18_OutboxEncodes.bits5 (fun HT_ HW_ => ?_)
     generalize w89.drew = w90 at HO432 HO436 BK427 HB hHeld ⊢
     refine pure_ (i := 0) (N := some 28) (v := ?_) (a' := ?_) #[true, false, false, false, false, false, false, false, false, false, false, false, false, false, false, false, false] rfl rfl (any_of HT_.out (by kernel_rfl)) (fun _ _ _ h => h) (Or.inl ⟨by rfl, ?_⟩) ?_ ?_
     rotate_left
     ·intro w'
      go_simp
      with_reducible rfl
     rotate_left
     ·simp only [Act.put, sA_, sB_, sC_, i64_w, i32_w]
      rfl
     refine take_ (i := 1) (N := some 29) (v := ?_) (a' := ?_) #[true, true, false, false, false, false, false, false, false, false, false, false, false, false, false, false, false] rfl rfl (take_ofW HT_.out HW_.out (by kernel_rfl)) (fun _ _ _ h => h) (Or.inl ⟨by rfl, ?_⟩) hHeld ?_ ?_
     rotate_left
     ·rintro w' ⟨s0, s1⟩
      go_simp
      with_reducible rfl
     rotate_left
     ·simp only [Act.put, sA_, sB_, sC_, i64_w, i32_w]
      rfl
     refine pure_ (i := 2) (N := some 30) (v := ?_) (a' := ?_) #[true, true, true, false, false, false, false, false, false, false, false, false, false, false, false, false, false] rfl rfl (any_of HT_.out (by kernel_rfl)) (fun _ _ _ h => h) (Or.inl ⟨by rfl, ?_⟩) ?_ ?_
     rotate_left
     ·intro w'
      go_simp
      with_reducible rfl
     rotate_left
     ·simp only [Act.put, sA_, sB_, sC_, i64_w, i32_w]
      rfl
     refine take_ (i := 3) (N := some 31) (v := ?_) (a' := ?_) #[true, true, true, true, false, false, false, false, false, false, false, false, false, false, false, false, false] rfl rfl (take_ofW HT_.out HW_.out (by kernel_rfl)) (fun _ _ _ h => h) (Or.inl ⟨by rfl, ?_⟩) hHeld ?_ ?_
     rotate_left
     ·rintro w' ⟨s0, s1⟩
      go_simp
      with_reducible rfl
     rotate_left
     ·simp only [Act.put, sA_, sB_, sC_, i64_w, i32_w]
      rfl
     refine pure_ (i := 4) (N := some 32) (v := ?_) (a' := ?_) #[true, true, true, true, true, false, false, false, false, false, false, false, false, false, false, false, false] rfl rfl (any_of HT_.out (by kernel_rfl)) (fun _ _ _ h => h) (Or.inl ⟨by rfl, ?_⟩) ?_ ?_
     rotate_left
     ·intro w'
      go_simp
      with_reducible rfl
     rotate_left
     ·simp only [Act.put, sA_, sB_, sC_, i64_w, i32_w]
      rfl
     refine pure_ (i := 5) (N := some 33) (v := ?_) (a' := ?_) #[true, true, true, true, true, true, false, false, false, false, false, false, false, false, false, false, false] rfl rfl (any_of HT_.out (by kernel_rfl)) (fun _ _ _ h => h) (Or.inl ⟨by rfl, ?_⟩) ?_ ?_
     rotate_left
     ·intro w'
      go_simp
      with_reducible rfl
     rotate_left
     ·simp only [Act.put, sA_, sB_, sC_, i64_w, i32_w]
      rfl
     refine pure_ (i := 6) (N := some 34) (v := undef) (a' := ?_) #[true, true, true, true, true, true, true, false, false, false, false, false, false, false, false, false, false] rfl rfl (any_of HT_.out (by kernel_rfl)) (fun _ _ _ h => h) (Or.inr ⟨by rfl, rfl⟩) ?_ ?_
     rotate_left
     ·simp only [Act.put, sA_, sB_, sC_, i64_w, i32_w]
      rfl
     refine pure_ (i := 7) (N := some 35) (v := undef) (a' := ?_) #[true, true, true, true, true, true, true, true, false, false, false, false, false, false, false, false, false] rfl rfl (any_of HT_.out (by kernel_rfl)) (fun _ _ _ h => h) (Or.inr ⟨by rfl, rfl⟩) ?_ ?_
     rotate_left
     ·simp only [Act.put, sA_, sB_, sC_, i64_w, i32_w]
      rfl
     refine pure_ (i := 8) (N := some 36) (v := undef) (a' := ?_) #[true, true, true, true, true, true, true, true, true, false, false, false, false, false, false, false, false] rfl rfl (any_of HT_.out (by kernel_rfl)) (fun _ _ _ h => h) (Or.inr ⟨by rfl, rfl⟩) ?_ ?_
     rotate_left
     ·simp only [Act.put, sA_, sB_, sC_, i64_w, i32_w]
      rfl
     refine pure_ (i := 9) (N := some 37) (v := ?_) (a' := ?_) #[true, true, true, true, true, true, true, true, true, true, false, false, false, false, false, false, false] rfl rfl (any_of HT_.out (by kernel_rfl)) (fun _ _ _ h => h) (Or.inl ⟨by rfl, ?_⟩) ?_ ?_
     rotate_left
     ·intro w'
      go_simp
      with_reducible rfl
     rotate_left
     ·simp only [Act.put, sA_, sB_, sC_, i64_w, i32_w]
      rfl
     refine pure_ (i := 10) (N := some 38) (v := ?_) (a' := ?_) #[true, true, true, true, true, true, true, true, true, true, true, false, false, false, false, false, false] rfl rfl (any_of HT_.out (by kernel_rfl)) (fun _ _ _ h => h) (Or.inl ⟨by rfl, ?_⟩) ?_ ?_
     rotate_left
     ·intro w'
      go_simp
      with_reducible rfl
     rotate_left
     ·simp only [Act.put, sA_, sB_, sC_, i64_w, i32_w]
      rfl
     refine pure_ (i := 11) (N := some 39) (v := undef) (a' := ?_) #[true, true, true, true, true, true, true, true, true, true, true, true, false, false, false, false, false] rfl rfl (any_of HT_.out (by kernel_rfl)) (fun _ _ _ h => h) (Or.inr ⟨by rfl, rfl⟩) ?_ ?_
     rotate_left
     ·simp only [Act.put, sA_, sB_, sC_, i64_w, i32_w]
      rfl
     refine pure_ (i := 12) (N := some 40) (v := undef) (a' := ?_) #[true, true, true, true, true, true, true, true, true, true, true, true, true, false, false, false, false] rfl rfl (any_of HT_.out (by kernel_rfl)) (fun _ _ _ h => h) (Or.inr ⟨by rfl, rfl⟩) ?_ ?_
     rotate_left
     ·simp only [Act.put, sA_, sB_, sC_, i64_w, i32_w]
      rfl
     refine pure_ (i := 13) (N := some 41) (v := undef) (a' := ?_) #[true, true, true, true, true, true, true, true, true, true, true, true, true, true, false, false, false] rfl rfl (any_of HT_.out (by kernel_rfl)) (fun _ _ _ h => h) (Or.inr ⟨by rfl, rfl⟩) ?_ ?_
     rotate_left
     ·simp only [Act.put, sA_, sB_, sC_, i64_w, i32_w]
      rfl
     refine pure_ (i := 14) (N := some 42) (v := undef) (a' := ?_) #[true, true, true, true, true, true, true, true, true, true, true, true, true, true, true, false, false] rfl rfl (any_of HT_.out (by kernel_rfl)) (fun _ _ _ h => h) (Or.inr ⟨by rfl, rfl⟩) ?_ ?_
     rotate_left
     ·simp only [Act.put, sA_, sB_, sC_, i64_w, i32_w]
      rfl
     refine pure_ (i := 15) (N := some 43) (v := undef) (a' := ?_) #[true, true, true, true, true, true, true, true, true, true, true, true, true, true, true, true, false] rfl rfl (any_of HT_.out (by kernel_rfl)) (fun _ _ _ h => h) (Or.inr ⟨by rfl, rfl⟩) ?_ ?_
     rotate_left
     ·simp only [Act.put, sA_, sB_, sC_, i64_w, i32_w]
      rfl
     refine pure_ (i := 16) (N := some 44) (v := ?_) (a' := ?_) #[true, true, true, true, true, true, true, true, true, true, true, true, true, true, true, true, true] rfl rfl (any_of HT_.out (by kernel_rfl)) (fun _ _ _ h => h) (Or.inl ⟨by rfl, ?_⟩) ?_ ?_
     rotate_left
     ·intro w'
      go_simp
      with_reducible rfl
     rotate_left
     ·simp only [Act.put, sA_, sB_, sC_, i64_w, i32_w]
      rfl
     refine done_ (done_of HT_.out (by kernel_rfl)) ?_
     try go_wp2
     go_ret
     exact ⟨by first | rfl | (simp [errW_none, errW_some] <;> rfl) | (simp [*, errW_none, errW_some] <;> rfl), by repeat (first | (with_reducible first | exact HB.out | apply below_alloc | apply pw_below_drewN | apply below_drew1 | refine below_set ?_ GE427.out) | exact HB.out)⟩

end Go.Proofs.Ytdglbiafpofeeaa.POutboxEncodes
