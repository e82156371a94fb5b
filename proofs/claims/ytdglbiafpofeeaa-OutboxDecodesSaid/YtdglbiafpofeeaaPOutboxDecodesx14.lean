-- Written by fprint.py (wip), by way of the printer's functions; where they are turned, by texts of mine.
import Derived.Test.YtdglbiafpofeeaaPOutboxDecodesx0
import Derived.Test.YtdglbiafpofeeaaPOutboxDecodesx1
import Derived.Test.YtdglbiafpofeeaaPOutboxDecodesx4
import Derived.Test.YtdglbiafpofeeaaPOutboxDecodesx7
import Derived.Test.YtdglbiafpofeeaaPOutboxDecodesx13
namespace Go.Proofs.Ytdglbiafpofeeaa.POutboxDecodes
open Go.RowKit Go.Proofs.YtdglbiafpofeeaaW.PrintWords Go.Proofs.YtdglbiafpofeeaaW.PrintLast Go.Proofs.YtdglbiafpofeeaaW.PrintMore
attribute [local go_sem] max2_int min2_int max_two min_two max_three min_three max_four min_four   -- for this text's walks alone
set_option linter.unusedVariables false
set_option linter.unusedSimpArgs false
theorem kz14_1 {p_ : Prop} (h_ : p_ := by (with_reducible repeat (first | refine blk_drewN ?_ _ | refine blk_drew ?_ | refine blk_alloc ?_ _)); refine blk_put (cs := #[.int .i64 t467, .int .i64 t468, .int .i64 t469, .string t470, .int .i64 t471, .bool false]) ?_ 5 _ rfl; (with_reducible repeat (first | refine blk_drewN ?_ _ | refine blk_drew ?_ | refine blk_alloc ?_ _)); refine blk_put (cs := #[.int .i64 t467, .int .i64 t468, .int .i64 t469, .string t470, .int .i64 0, .bool false]) ?_ 4 _ rfl; (with_reducible repeat (first | refine blk_drewN ?_ _ | refine blk_drew ?_ | refine blk_alloc ?_ _)); refine blk_put (cs := #[.int .i64 t467, .int .i64 t468, .int .i64 t469, .string (⟨#[]⟩ : ByteArray), .int .i64 0, .bool false]) ?_ 3 _ rfl; (with_reducible repeat (first | refine blk_drewN ?_ _ | refine blk_drew ?_ | refine blk_alloc ?_ _)); refine blk_put (cs := #[.int .i64 t467, .int .i64 t468, .int .i64 0, .string (⟨#[]⟩ : ByteArray), .int .i64 0, .bool false]) ?_ 2 _ rfl; (with_reducible repeat (first | refine blk_drewN ?_ _ | refine blk_drew ?_ | refine blk_alloc ?_ _)); refine blk_put (cs := #[.int .i64 t467, .int .i64 0, .int .i64 0, .string (⟨#[]⟩ : ByteArray), .int .i64 0, .bool false]) ?_ 1 _ rfl; (with_reducible repeat (first | refine blk_drewN ?_ _ | refine blk_drew ?_ | refine blk_alloc ?_ _)); refine blk_put (cs := #[.int .i64 0, .int .i64 0, .int .i64 0, .string (⟨#[]⟩ : ByteArray), .int .i64 0, .bool false]) ?_ 0 _ rfl; (with_reducible repeat (first | refine blk_drewN ?_ _ | refine blk_drew ?_ | refine blk_alloc ?_ _)); exact BK474.out) : p_ := h_
theorem kz14_2 {p_ : Prop} (h_ : p_ := by repeat (first | (with_reducible first | exact HB.out | apply below_alloc | apply pw_below_drewN | apply below_drew1 | refine below_set ?_ GE474.out) | exact HB.out)) : p_ := h_
theorem kz14_3 {p_ : Prop} (h_ : p_ := by repeat (first | (with_reducible first | exact HB.out | apply below_alloc | apply pw_below_drewN | apply below_drew1) | exact HB.out)) : p_ := h_
theorem kz14_4 {p_ : Prop} (h_ : p_ := by (try simp only [List.map_toArray, List.map_cons, List.map_nil]); first | done | rfl | (simp only [List.length_drop, List.length_take]; rfl)) : p_ := h_
theorem kz14_5 {p_ : Prop} (h_ : p_ := by (with_reducible repeat (first | refine blk_drewN ?_ _ | refine blk_drew ?_ | refine blk_alloc ?_ _)); exact BK474.out) : p_ := h_

attribute [local go_sem high] eqA28
/-! ### tumbrellaw18_OutboxDecodes: function 11 -/
def tumbrellaw18_OutboxDecodes.j0 : Nat → List Int → Bool → Option (Bool)
 | 0, _, _ => none
 | k + 1, x0, x13 => if x13 = true then ((tumbrellaw18_awake.f k).bind fun t466 => (some t466)) else ((outbox_Decode.f k x0).bind fun bt467 => ((tumbrelref18_Decode.f k x0).bind fun bt475 => (if (bt467.1 == bt475.1 && (bt467.2.1 == bt475.2.1 && (bt467.2.2.1 == bt475.2.2.1 && (bt467.2.2.2.1.toList == bt475.2.2.2.1.toList && (bt467.2.2.2.2.1 == bt475.2.2.2.2.1 && (bt467.2.2.2.2.2.1 == bt475.2.2.2.2.2.1)))))) = true then (some (bt467.2.2.2.2.2.2 == bt475.2.2.2.2.2.2)) else (some false))))
def tumbrellaw18_OutboxDecodes.f (k : Nat) (l0 : List Int) : Option (Bool) := (tumbrellaw18_awake.f k).bind fun t465 => (if t465 = true then (tumbrellaw18_OutboxDecodes.j0 k l0 (decide ((l0.length : Int) > 20000))) else (tumbrellaw18_OutboxDecodes.j0 k l0 true))
theorem tumbrellaw18_OutboxDecodes.mono_l : ∀ k, (∀ y0 y1, LeO (tumbrellaw18_OutboxDecodes.j0 k y0 y1) (tumbrellaw18_OutboxDecodes.j0 (k + 1) y0 y1))
 | 0 => fun _ _ r h => by simp [tumbrellaw18_OutboxDecodes.j0] at h
 | k + 1 => by
  have ih0 := tumbrellaw18_OutboxDecodes.mono_l k
  ·intro y0 y1
   unfold tumbrellaw18_OutboxDecodes.j0
   repeat' first
   | (with_reducible exact ih0 _ _)
   | (with_reducible exact outbox_Decode.mono _ _)
   | (with_reducible exact tumbrellaw18_awake.mono _)
   | (with_reducible exact tumbrelref18_Decode.mono _ _)
   | (with_reducible exact LeO.refl _)
   | (with_reducible exact LeO.none _)
   | (with_reducible refine LeO.ite ?_ ?_)
   | (with_reducible refine LeO.bind ?_ (fun _ => ?_))
   | exact ih0 _ _
   | exact outbox_Decode.mono _ _
   | exact tumbrellaw18_awake.mono _
   | exact tumbrelref18_Decode.mono _ _
   | exact LeO.none _
   | refine LeO.ite ?_ ?_
   | refine LeO.bind ?_ (fun _ => ?_)
theorem tumbrellaw18_OutboxDecodes.mono : ∀ a0 k, LeO (tumbrellaw18_OutboxDecodes.f k a0) (tumbrellaw18_OutboxDecodes.f (k + 1) a0) := by
 intro a0 k
 have ih0 := tumbrellaw18_OutboxDecodes.mono_l k
 unfold tumbrellaw18_OutboxDecodes.f
 repeat' first
   | (with_reducible exact ih0 _ _)
   | (with_reducible exact outbox_Decode.mono _ _)
   | (with_reducible exact tumbrellaw18_awake.mono _)
   | (with_reducible exact tumbrelref18_Decode.mono _ _)
   | (with_reducible exact LeO.refl _)
   | (with_reducible exact LeO.none _)
   | (with_reducible refine LeO.ite ?_ ?_)
   | (with_reducible refine LeO.bind ?_ (fun _ => ?_))
   | exact ih0 _ _
   | exact outbox_Decode.mono _ _
   | exact tumbrellaw18_awake.mono _
   | exact tumbrelref18_Decode.mono _ _
   | exact LeO.none _
   | refine LeO.ite ?_ ?_
   | refine LeO.bind ?_ (fun _ => ?_)
set_option maxHeartbeats 8000000 in
set_option maxRecDepth 100000 in
theorem tumbrellaw18_OutboxDecodes.calls (k : Nat) (A0 : Option Addr) (c0 : Nat) (l0 : List Int) (r : Bool) (w : World) (hr0 : Kd.C (Kd.int .u8) w A0 l0.length l0) (hc0 : l0.length ≤ c0) (h : tumbrellaw18_OutboxDecodes.f k l0 = some r) :
  Calls Try.prog 11 #[.slice A0 l0.length c0] w fun e w' => e = .returned (.bool r) ∧ Below w.heap.size w w' := by
 have hu28 := Try.underlying28
 have HR0 := Aside0.mk hr0
 have HC0 := Aside0.mk hc0
 clear hr0 hc0
 have HB := Aside0.mk (Below.refl w.heap.size w)
 have H : ((tumbrellaw18_awake.f k).bind fun t465 => (if t465 = true then (tumbrellaw18_OutboxDecodes.j0 k l0 (decide ((l0.length : Int) > 20000))) else (tumbrellaw18_OutboxDecodes.j0 k l0 true))) = some r := h
 clear h
 have HC2 := Aside0.mk H
 clear H
 go_enter Try.func11, Try.ntmps11
 go_upto_region 1 with (fail)
 go_cut [13] (fun v13 wc => ∃ (kq : Nat) (x13_1 : Bool), v13 = .bool x13_1 ∧ Aside0 (tumbrellaw18_OutboxDecodes.j0 kq l0 x13_1 = some r) ∧ Aside0 (kq ≤ k) ∧ Aside0 (Below w.heap.size w wc))
 case first =>
  have H := HC2.out
  clear HC2
  replace H := Option.bind_eq_some_iff.mp H
  obtain ⟨t465, A30, H⟩ := H
  replace H : (if t465 = true then (tumbrellaw18_OutboxDecodes.j0 k l0 (decide ((l0.length : Int) > 20000))) else (tumbrellaw18_OutboxDecodes.j0 k l0 true)) = some r := H
  have A3 := Aside0.mk A30
  clear A30
  by_cases c4 : t465 = true
  ·subst c4
   have H1 : (tumbrellaw18_OutboxDecodes.j0 k l0 (decide ((l0.length : Int) > 20000))) = some r := by rw [if_pos rfl] at H; exact H
   clear H
   have H := H1
   clear H1
   have H' := Aside0.mk H
   clear H
   go_wp2_with (first | ((with_reducible refine gate_callee (f := 22) rfl ?_); refine goesL_ (some 7) rfl rfl Try.func22 (by kernel_rfl) rfl #[] rfl kz14_4 ?_; (with_reducible refine (tumbrellaw18_awake.calls k  true _ A3.out).mono ?_); rintro e w5 ⟨rfl, hb⟩; refine ⟨_, rfl, ?_⟩; have n0_ := Aside0.mk (below_step kz14_3 hb); clear HB; have HB := n0_; clear n0_; (try clear hb); (try clear hb2); (try clear hk); (try clear hi)))
   go_meet
   case rel => exact ⟨_, (decide ((l0.length : Int) > 20000)), (by first | rfl | (simp; done) | (simp [*]; done)), H', ⟨by first | omega | exact Nat.le_refl _⟩, ⟨by repeat (first | (with_reducible first | exact HB.out | apply below_alloc | apply pw_below_drewN | apply below_drew1) | exact HB.out)⟩⟩
  ·replace c4 := Bool.eq_false_iff.mpr c4
   subst c4
   have H1 : (tumbrellaw18_OutboxDecodes.j0 k l0 true) = some r := by rw [if_neg (show ¬ (false = true) by decide)] at H; exact H
   clear H
   have H := H1
   clear H1
   have H' := Aside0.mk H
   clear H
   go_wp2_with (first | ((with_reducible refine gate_callee (f := 22) rfl ?_); refine goesL_ (some 7) rfl rfl Try.func22 (by kernel_rfl) rfl #[] rfl kz14_4 ?_; (with_reducible refine (tumbrellaw18_awake.calls k  false _ A3.out).mono ?_); rintro e w6 ⟨rfl, hb⟩; refine ⟨_, rfl, ?_⟩; have n0_ := Aside0.mk (below_step kz14_3 hb); clear HB; have HB := n0_; clear n0_; (try clear hb); (try clear hb2); (try clear hk); (try clear hi)))
   go_meet
   case rel => exact ⟨_, (true), (by first | rfl | (simp; done) | (simp [*]; done)), H', ⟨by first | omega | exact Nat.le_refl _⟩, ⟨by repeat (first | (with_reducible first | exact HB.out | apply below_alloc | apply pw_below_drewN | apply below_drew1) | exact HB.out)⟩⟩
 case rest =>
  clear HC2
  try clear c1
  try clear c2
  try clear p2
  try clear c4
  obtain ⟨kq, x13_1, rfl, HA, HJ1, HB⟩ := hcut
  cases kq with
  | zero => exact absurd HA.out (by simp [tumbrellaw18_OutboxDecodes.j0])
  | succ kj1 =>
   have H := HA.out
   clear HA
   simp only [tumbrellaw18_OutboxDecodes.j0] at H
   by_cases c7 : x13_1 = true
   ·subst c7
    have H1 : ((tumbrellaw18_awake.f kj1).bind fun t466 => (some t466)) = some r := by rw [if_pos rfl] at H; exact H
    clear H
    have H := H1
    clear H1
    replace H := Option.bind_eq_some_iff.mp H
    obtain ⟨t466, A80, H⟩ := H
    replace H : (some t466) = some r := H
    have A8 := Aside0.mk A80
    clear A80
    obtain rfl := Option.some.inj H
    go_wp2_with (first | ((with_reducible refine gate_callee (f := 22) rfl ?_); refine goesL_ (some 14) rfl rfl Try.func22 (by kernel_rfl) rfl #[] rfl kz14_4 ?_; (with_reducible refine (tumbrellaw18_awake.calls kj1  t466 _ A8.out).mono ?_); rintro e w9 ⟨rfl, hb⟩; refine ⟨_, rfl, ?_⟩; have n0_ := Aside0.mk (below_step kz14_3 hb); clear HB; have HB := n0_; clear n0_; (try clear hb); (try clear hb2); (try clear hk); (try clear hi)))
    go_ret
    exact ⟨by first | rfl | (simp [errW_none, errW_some] <;> rfl) | (simp [*, errW_none, errW_some] <;> rfl), by repeat (first | (with_reducible first | exact HB.out | apply below_alloc | apply pw_below_drewN | apply below_drew1) | exact HB.out)⟩
   ·replace c7 := Bool.eq_false_iff.mpr c7
    subst c7
    have H1 : ((outbox_Decode.f kj1 l0).bind fun bt467 => ((tumbrelref18_Decode.f kj1 l0).bind fun bt475 => (if (bt467.1 == bt475.1 && (bt467.2.1 == bt475.2.1 && (bt467.2.2.1 == bt475.2.2.1 && (bt467.2.2.2.1.toList == bt475.2.2.2.1.toList && (bt467.2.2.2.2.1 == bt475.2.2.2.2.1 && (bt467.2.2.2.2.2.1 == bt475.2.2.2.2.2.1)))))) = true then (some (bt467.2.2.2.2.2.2 == bt475.2.2.2.2.2.2)) else (some false)))) = some r := by rw [if_neg (show ¬ (false = true) by decide)] at H; exact H
    clear H
    have H := H1
    clear H1
    replace H := Option.bind_eq_some_iff.mp H
    obtain ⟨⟨t467, t468, t469, t470, t471, t472, t473⟩, A100, H⟩ := H
    replace H : ((tumbrelref18_Decode.f kj1 l0).bind fun bt475 => (if (t467 == bt475.1 && (t468 == bt475.2.1 && (t469 == bt475.2.2.1 && (t470.toList == bt475.2.2.2.1.toList && (t471 == bt475.2.2.2.2.1 && (t472 == bt475.2.2.2.2.2.1)))))) = true then (some (t473 == bt475.2.2.2.2.2.2)) else (some false))) = some r := H
    have A10 := Aside0.mk A100
    clear A100
    replace H := Option.bind_eq_some_iff.mp H
    obtain ⟨⟨t475, t476, t477, t478, t479, t480, t481⟩, A110, H⟩ := H
    replace H : (if (t467 == t475 && (t468 == t476 && (t469 == t477 && (t470.toList == t478.toList && (t471 == t479 && (t472 == t480)))))) = true then (some (t473 == t481)) else (some false)) = some r := H
    have A11 := Aside0.mk A110
    clear A110
    by_cases c12 : (t467 == t475 && (t468 == t476 && (t469 == t477 && (t470.toList == t478.toList && (t471 == t479 && (t472 == t480)))))) = true
    ·rw [if_pos c12] at H
     have c12b0 : (t467 == t475 && (t468 == t476 && (t469 == t477 && (t470.toList == t478.toList && (t471 == t479 && (t472 == t480)))))) = true := c12
     (try (have c12b1 : decide (t467 = t475 && (t468 == t476 && (t469 == t477 && (t470.toList == t478.toList && (t471 == t479 && (t472 == t480)))))) = true := by simpa using c12))
     (try (have c12b2 : (t467 == t475 && (t468 == t476 && (t469 == t477 && (t470.toList == t478.toList && (t471 == t479 && (t472 == t480)))))) = true := by simpa using c12))
     clear c12
     obtain rfl := Option.some.inj H
     go_wp2_with (first | ((with_reducible refine gate_callee (f := 38) rfl ?_); refine goesL_ (some 17) rfl rfl Try.func38 (by kernel_rfl) rfl #[.slice A0 l0.length c0] rfl kz14_4 ?_; (with_reducible refine (outbox_Decode.calls kj1 _ _ l0 t467 t468 t469 t470 t471 t472 t473 _ ?side1 ?side2 A10.out).mono ?_); (case side1 => repeat (first | exact (Kd.C_below HR0.out HB.out) | (with_reducible refine Kd.C_alloc ?_ _) | (with_reducible refine Kd.C_drewN ?_ _) | (with_reducible refine Kd.C_drew ?_))); (case side2 => exact HC0.out); rintro e w13 ⟨rfl, hb⟩; refine ⟨_, rfl, ?_⟩; have n0_ := Aside0.mk (below_step kz14_3 hb); clear HB; have HB := n0_; clear n0_; (try clear hb); (try clear hb2); (try clear hk); (try clear hi)) | ((with_reducible refine gate_dst (N := 3) rfl ?_); (try (refine gate_guard (by rfl) ?_; dsimp only)); refine box_event ?hg (N := 3) ?hd (cs := #[.int .i64 0, .int .i64 0, .int .i64 0, .string (⟨#[]⟩ : ByteArray), .int .i64 0, .bool false]) (t := 28) ?hr ?_; (case hd => rfl); (case hg => rfl); (case hr => first | (go_simp; done) | (go_simp; rfl)); intro gb474 hg w14 hbox hb; have n0_ := Aside0.mk (below_step kz14_3 hb); have n1_ := Aside0.mk (hbox); have n2_ := Aside0.mk ((by rw [hg]; exact (below_size kz14_3) : w.heap.size ≤ gb474)); have n3_ := Aside0.mk ((by rw [hg]; exact (below_size kz14_3) : w.heap.size ≤ gb474)); clear HB; have HB := n0_; have BK474 := n1_; have GW474 := n2_; have GE474 := n3_; clear n0_ n1_ n2_ n3_; clear hb hbox hg; have hcz15_0 : w14.cell? ⟨gb474, 0, none⟩ = some (.int .i64 0) := (blk_cell BK474.out 0).trans rfl; have hcz15_1 : w14.cell? ⟨gb474, 1, none⟩ = some (.int .i64 0) := (blk_cell BK474.out 1).trans rfl; have hcz15_2 : w14.cell? ⟨gb474, 2, none⟩ = some (.int .i64 0) := (blk_cell BK474.out 2).trans rfl; have hcz15_3 : w14.cell? ⟨gb474, 3, none⟩ = some (.string (⟨#[]⟩ : ByteArray)) := (blk_cell BK474.out 3).trans rfl; have hcz15_4 : w14.cell? ⟨gb474, 4, none⟩ = some (.int .i64 0) := (blk_cell BK474.out 4).trans rfl; have hcz15_5 : w14.cell? ⟨gb474, 5, none⟩ = some (.bool false) := (blk_cell BK474.out 5).trans rfl; have hfz15_0 := blk_frozen BK474.out 0; have hfz15_1 := blk_frozen BK474.out 1; have hfz15_2 := blk_frozen BK474.out 2; have hfz15_3 := blk_frozen BK474.out 3; have hfz15_4 := blk_frozen BK474.out 4; have hfz15_5 := blk_frozen BK474.out 5) | ((with_reducible refine gate_callee (f := 39) rfl ?_); refine goesL_ (some 22) rfl rfl Try.func39 (by kernel_rfl) rfl #[.slice A0 l0.length c0] rfl kz14_4 ?_; (with_reducible refine (tumbrelref18_Decode.calls kj1 _ _ l0 t475 t476 t477 t478 t479 t480 t481 _ ?side1 ?side2 A11.out).mono ?_); (case side1 => exact Kd.C_below HR0.out kz14_2); (case side2 => exact HC0.out); rintro e w16 ⟨rfl, hb⟩; refine ⟨_, rfl, ?_⟩; have n0_ := Aside0.mk (blk_below (g := gb474) (o := .cells #[.int .i64 t467, .int .i64 t468, .int .i64 t469, .string t470, .int .i64 t471, .bool t472] 28 (0, 0)) kz14_1 hb); have n1_ := Aside0.mk (below_step kz14_2 hb); clear BK474; clear HB; have BK474 := n0_; have HB := n1_; clear n0_ n1_; (try clear hb); (try clear hb2); (try clear hk); (try clear hi)) | ((with_reducible refine gate_dst (N := 5) rfl ?_); (try (refine gate_guard (by rfl) ?_; dsimp only)); refine box_event ?hg (N := 5) ?hd (cs := #[.int .i64 0, .int .i64 0, .int .i64 0, .string (⟨#[]⟩ : ByteArray), .int .i64 0, .bool false]) (t := 28) ?hr ?_; (case hd => rfl); (case hg => rfl); (case hr => first | (go_simp; done) | (go_simp; rfl)); intro gb482 hg w17 hbox hb; have n0_ := Aside0.mk (blk_below (g := gb474) (o := .cells #[.int .i64 t467, .int .i64 t468, .int .i64 t469, .string t470, .int .i64 t471, .bool t472] 28 (0, 0)) kz14_5 hb); have n1_ := Aside0.mk (below_step kz14_2 hb); have n2_ := Aside0.mk (hbox); have n3_ := Aside0.mk ((by rw [hg]; exact (below_size kz14_2) : w.heap.size ≤ gb482)); have n4_ := Aside0.mk ((by rw [hg]; exact (below_size kz14_2) : w.heap.size ≤ gb482)); have n5_ := Aside0.mk ((by rw [hg]; exact Nat.ne_of_lt (blk_lt (g := gb474) (o := .cells #[.int .i64 t467, .int .i64 t468, .int .i64 t469, .string t470, .int .i64 t471, .bool t472] 28 (0, 0)) kz14_5) : gb474 ≠ gb482)); have n6_ := Aside0.mk ((by rw [hg]; exact Nat.ne_of_gt (blk_lt (g := gb474) (o := .cells #[.int .i64 t467, .int .i64 t468, .int .i64 t469, .string t470, .int .i64 t471, .bool t472] 28 (0, 0)) kz14_5) : gb482 ≠ gb474)); clear BK474; clear HB; have BK474 := n0_; have HB := n1_; have BK482 := n2_; have GW482 := n3_; have GE482 := n4_; have NB474_482 := n5_; have NB482_474 := n6_; clear n0_ n1_ n2_ n3_ n4_ n5_ n6_; clear hb hbox hg; have hnb18 := NB482_474.out; have hnc18 := NB474_482.out; have hcz19_0 : w17.cell? ⟨gb482, 0, none⟩ = some (.int .i64 0) := (blk_cell BK482.out 0).trans rfl; have hcz19_1 : w17.cell? ⟨gb482, 1, none⟩ = some (.int .i64 0) := (blk_cell BK482.out 1).trans rfl; have hcz19_2 : w17.cell? ⟨gb482, 2, none⟩ = some (.int .i64 0) := (blk_cell BK482.out 2).trans rfl; have hcz19_3 : w17.cell? ⟨gb482, 3, none⟩ = some (.string (⟨#[]⟩ : ByteArray)) := (blk_cell BK482.out 3).trans rfl; have hcz19_4 : w17.cell? ⟨gb482, 4, none⟩ = some (.int .i64 0) := (blk_cell BK482.out 4).trans rfl; have hcz19_5 : w17.cell? ⟨gb482, 5, none⟩ = some (.bool false) := (blk_cell BK482.out 5).trans rfl; have hfz19_0 := blk_frozen BK482.out 0; have hfz19_1 := blk_frozen BK482.out 1; have hfz19_2 := blk_frozen BK482.out 2; have hfz19_3 := blk_frozen BK482.out 3; have hfz19_4 := blk_frozen BK482.out 4; have hfz19_5 := blk_frozen BK482.out 5; have hcz20_0 : w17.cell? ⟨gb474, 0, none⟩ = some (.int .i64 t467) := (blk_cell BK474.out 0).trans rfl; have hcz20_1 : w17.cell? ⟨gb474, 1, none⟩ = some (.int .i64 t468) := (blk_cell BK474.out 1).trans rfl; have hcz20_2 : w17.cell? ⟨gb474, 2, none⟩ = some (.int .i64 t469) := (blk_cell BK474.out 2).trans rfl; have hcz20_3 : w17.cell? ⟨gb474, 3, none⟩ = some (.string t470) := (blk_cell BK474.out 3).trans rfl; have hcz20_4 : w17.cell? ⟨gb474, 4, none⟩ = some (.int .i64 t471) := (blk_cell BK474.out 4).trans rfl; have hcz20_5 : w17.cell? ⟨gb474, 5, none⟩ = some (.bool t472) := (blk_cell BK474.out 5).trans rfl; have hfz20_0 := blk_frozen BK474.out 0; have hfz20_1 := blk_frozen BK474.out 1; have hfz20_2 := blk_frozen BK474.out 2; have hfz20_3 := blk_frozen BK474.out 3; have hfz20_4 := blk_frozen BK474.out 4; have hfz20_5 := blk_frozen BK474.out 5))
     go_ret
     exact ⟨by first | rfl | (simp [errW_none, errW_some] <;> rfl) | (simp [*, errW_none, errW_some] <;> rfl), by repeat (first | (with_reducible first | exact HB.out | apply below_alloc | apply pw_below_drewN | apply below_drew1 | refine below_set ?_ GE474.out | refine below_set ?_ GE482.out) | exact HB.out)⟩
    ·rw [if_neg c12] at H
     have c12b0 : (t467 == t475 && (t468 == t476 && (t469 == t477 && (t470.toList == t478.toList && (t471 == t479 && (t472 == t480)))))) = false := by simpa using c12
     (try (have c12b1 : decide (t467 = t475 && (t468 == t476 && (t469 == t477 && (t470.toList == t478.toList && (t471 == t479 && (t472 == t480)))))) = false := by simpa using c12))
     (try (have c12b2 : (t467 == t475 && (t468 == t476 && (t469 == t477 && (t470.toList == t478.toList && (t471 == t479 && (t472 == t480)))))) = false := by simpa using c12))
     (try (have c12b3 : ¬ (t467 = t475 && (t468 == t476 && (t469 == t477 && (t470.toList == t478.toList && (t471 == t479 && (t472 == t480)))))) := by simpa using c12))
     clear c12
     obtain rfl := Option.some.inj H
     go_wp2_with (first | ((with_reducible refine gate_callee (f := 38) rfl ?_); refine goesL_ (some 17) rfl rfl Try.func38 (by kernel_rfl) rfl #[.slice A0 l0.length c0] rfl kz14_4 ?_; (with_reducible refine (outbox_Decode.calls kj1 _ _ l0 t467 t468 t469 t470 t471 t472 t473 _ ?side1 ?side2 A10.out).mono ?_); (case side1 => repeat (first | exact (Kd.C_below HR0.out HB.out) | (with_reducible refine Kd.C_alloc ?_ _) | (with_reducible refine Kd.C_drewN ?_ _) | (with_reducible refine Kd.C_drew ?_))); (case side2 => exact HC0.out); rintro e w21 ⟨rfl, hb⟩; refine ⟨_, rfl, ?_⟩; have n0_ := Aside0.mk (below_step kz14_3 hb); clear HB; have HB := n0_; clear n0_; (try clear hb); (try clear hb2); (try clear hk); (try clear hi)) | ((with_reducible refine gate_dst (N := 3) rfl ?_); (try (refine gate_guard (by rfl) ?_; dsimp only)); refine box_event ?hg (N := 3) ?hd (cs := #[.int .i64 0, .int .i64 0, .int .i64 0, .string (⟨#[]⟩ : ByteArray), .int .i64 0, .bool false]) (t := 28) ?hr ?_; (case hd => rfl); (case hg => rfl); (case hr => first | (go_simp; done) | (go_simp; rfl)); intro gb474 hg w22 hbox hb; have n0_ := Aside0.mk (below_step kz14_3 hb); have n1_ := Aside0.mk (hbox); have n2_ := Aside0.mk ((by rw [hg]; exact (below_size kz14_3) : w.heap.size ≤ gb474)); have n3_ := Aside0.mk ((by rw [hg]; exact (below_size kz14_3) : w.heap.size ≤ gb474)); clear HB; have HB := n0_; have BK474 := n1_; have GW474 := n2_; have GE474 := n3_; clear n0_ n1_ n2_ n3_; clear hb hbox hg; have hcz23_0 : w22.cell? ⟨gb474, 0, none⟩ = some (.int .i64 0) := (blk_cell BK474.out 0).trans rfl; have hcz23_1 : w22.cell? ⟨gb474, 1, none⟩ = some (.int .i64 0) := (blk_cell BK474.out 1).trans rfl; have hcz23_2 : w22.cell? ⟨gb474, 2, none⟩ = some (.int .i64 0) := (blk_cell BK474.out 2).trans rfl; have hcz23_3 : w22.cell? ⟨gb474, 3, none⟩ = some (.string (⟨#[]⟩ : ByteArray)) := (blk_cell BK474.out 3).trans rfl; have hcz23_4 : w22.cell? ⟨gb474, 4, none⟩ = some (.int .i64 0) := (blk_cell BK474.out 4).trans rfl; have hcz23_5 : w22.cell? ⟨gb474, 5, none⟩ = some (.bool false) := (blk_cell BK474.out 5).trans rfl; have hfz23_0 := blk_frozen BK474.out 0; have hfz23_1 := blk_frozen BK474.out 1; have hfz23_2 := blk_frozen BK474.out 2; have hfz23_3 := blk_frozen BK474.out 3; have hfz23_4 := blk_frozen BK474.out 4; have hfz23_5 := blk_frozen BK474.out 5) | ((with_reducible refine gate_callee (f := 39) rfl ?_); refine goesL_ (some 22) rfl rfl Try.func39 (by kernel_rfl) rfl #[.slice A0 l0.length c0] rfl kz14_4 ?_; (with_reducible refine (tumbrelref18_Decode.calls kj1 _ _ l0 t475 t476 t477 t478 t479 t480 t481 _ ?side1 ?side2 A11.out).mono ?_); (case side1 => exact Kd.C_below HR0.out kz14_2); (case side2 => exact HC0.out); rintro e w24 ⟨rfl, hb⟩; refine ⟨_, rfl, ?_⟩; have n0_ := Aside0.mk (blk_below (g := gb474) (o := .cells #[.int .i64 t467, .int .i64 t468, .int .i64 t469, .string t470, .int .i64 t471, .bool t472] 28 (0, 0)) kz14_1 hb); have n1_ := Aside0.mk (below_step kz14_2 hb); clear BK474; clear HB; have BK474 := n0_; have HB := n1_; clear n0_ n1_; (try clear hb); (try clear hb2); (try clear hk); (try clear hi)) | ((with_reducible refine gate_dst (N := 5) rfl ?_); (try (refine gate_guard (by rfl) ?_; dsimp only)); refine box_event ?hg (N := 5) ?hd (cs := #[.int .i64 0, .int .i64 0, .int .i64 0, .string (⟨#[]⟩ : ByteArray), .int .i64 0, .bool false]) (t := 28) ?hr ?_; (case hd => rfl); (case hg => rfl); (case hr => first | (go_simp; done) | (go_simp; rfl)); intro gb482 hg w25 hbox hb; have n0_ := Aside0.mk (blk_below (g := gb474) (o := .cells #[.int .i64 t467, .int .i64 t468, .int .i64 t469, .string t470, .int .i64 t471, .bool t472] 28 (0, 0)) kz14_5 hb); have n1_ := Aside0.mk (below_step kz14_2 hb); have n2_ := Aside0.mk (hbox); have n3_ := Aside0.mk ((by rw [hg]; exact (below_size kz14_2) : w.heap.size ≤ gb482)); have n4_ := Aside0.mk ((by rw [hg]; exact (below_size kz14_2) : w.heap.size ≤ gb482)); have n5_ := Aside0.mk ((by rw [hg]; exact Nat.ne_of_lt (blk_lt (g := gb474) (o := .cells #[.int .i64 t467, .int .i64 t468, .int .i64 t469, .string t470, .int .i64 t471, .bool t472] 28 (0, 0)) kz14_5) : gb474 ≠ gb482)); have n6_ := Aside0.mk ((by rw [hg]; exact Nat.ne_of_gt (blk_lt (g := gb474) (o := .cells #[.int .i64 t467, .int .i64 t468, .int .i64 t469, .string t470, .int .i64 t471, .bool t472] 28 (0, 0)) kz14_5) : gb482 ≠ gb474)); clear BK474; clear HB; have BK474 := n0_; have HB := n1_; have BK482 := n2_; have GW482 := n3_; have GE482 := n4_; have NB474_482 := n5_; have NB482_474 := n6_; clear n0_ n1_ n2_ n3_ n4_ n5_ n6_; clear hb hbox hg; have hnb26 := NB482_474.out; have hnc26 := NB474_482.out; have hcz27_0 : w25.cell? ⟨gb482, 0, none⟩ = some (.int .i64 0) := (blk_cell BK482.out 0).trans rfl; have hcz27_1 : w25.cell? ⟨gb482, 1, none⟩ = some (.int .i64 0) := (blk_cell BK482.out 1).trans rfl; have hcz27_2 : w25.cell? ⟨gb482, 2, none⟩ = some (.int .i64 0) := (blk_cell BK482.out 2).trans rfl; have hcz27_3 : w25.cell? ⟨gb482, 3, none⟩ = some (.string (⟨#[]⟩ : ByteArray)) := (blk_cell BK482.out 3).trans rfl; have hcz27_4 : w25.cell? ⟨gb482, 4, none⟩ = some (.int .i64 0) := (blk_cell BK482.out 4).trans rfl; have hcz27_5 : w25.cell? ⟨gb482, 5, none⟩ = some (.bool false) := (blk_cell BK482.out 5).trans rfl; have hfz27_0 := blk_frozen BK482.out 0; have hfz27_1 := blk_frozen BK482.out 1; have hfz27_2 := blk_frozen BK482.out 2; have hfz27_3 := blk_frozen BK482.out 3; have hfz27_4 := blk_frozen BK482.out 4; have hfz27_5 := blk_frozen BK482.out 5; have hcz28_0 : w25.cell? ⟨gb474, 0, none⟩ = some (.int .i64 t467) := (blk_cell BK474.out 0).trans rfl; have hcz28_1 : w25.cell? ⟨gb474, 1, none⟩ = some (.int .i64 t468) := (blk_cell BK474.out 1).trans rfl; have hcz28_2 : w25.cell? ⟨gb474, 2, none⟩ = some (.int .i64 t469) := (blk_cell BK474.out 2).trans rfl; have hcz28_3 : w25.cell? ⟨gb474, 3, none⟩ = some (.string t470) := (blk_cell BK474.out 3).trans rfl; have hcz28_4 : w25.cell? ⟨gb474, 4, none⟩ = some (.int .i64 t471) := (blk_cell BK474.out 4).trans rfl; have hcz28_5 : w25.cell? ⟨gb474, 5, none⟩ = some (.bool t472) := (blk_cell BK474.out 5).trans rfl; have hfz28_0 := blk_frozen BK474.out 0; have hfz28_1 := blk_frozen BK474.out 1; have hfz28_2 := blk_frozen BK474.out 2; have hfz28_3 := blk_frozen BK474.out 3; have hfz28_4 := blk_frozen BK474.out 4; have hfz28_5 := blk_frozen BK474.out 5))
     go_ret
     exact ⟨by first | rfl | (simp [errW_none, errW_some] <;> rfl) | (simp [*, errW_none, errW_some] <;> rfl), by repeat (first | (with_reducible first | exact HB.out | apply below_alloc | apply pw_below_drewN | apply below_drew1 | refine below_set ?_ GE474.out | refine below_set ?_ GE482.out) | exact HB.out)⟩

/-- THE ONE PURE STATEMENT of tumbrellaw18_OutboxDecodes: yours. -/
def tumbrellaw18_OutboxDecodes.Pure : Prop := ∀ (l0 : List Int), l0.length ≤ maxLen → l0.length * 1 ≤ 140737488351232 → (∀ x ∈ l0, (Lit.int .u8 x).wf = true) → ∃ k, tumbrellaw18_OutboxDecodes.f k l0 = some true
theorem tumbrellaw18_OutboxDecodes.walk (P : tumbrellaw18_OutboxDecodes.Pure) (a0 : Option Addr) (len0 cap0 : Nat) (z0 : List Int) (w : World) (w0 : (a0 = none ∧ len0 = 0 ∧ cap0 = 0 ∧ z0 = []) ∨ ∃ x, a0 = some x ∧ len0 ≤ cap0 ∧ cap0 ≤ maxLen ∧ z0.length = cap0 ∧ (∀ i, i < z0.length → w.cell? (x.add i) = some (.int .u8 (z0.getD i 0))) ∧ ∀ n ∈ z0, (Lit.int .u8 n).wf = true) (y0 : len0 * 1 ≤ 140737488351232) :
  Calls Try.prog 11 #[.slice a0 len0 cap0] w fun e w' => e = .returned (.bool true) ∧ Below w.heap.size w w' := by
 obtain ⟨l0, rfl, hr0, hm0, hw0, hc0⟩ := ReadsInt.ofRowC w0
 obtain ⟨k, h⟩ := P l0 hm0 y0 hw0
 refine (tumbrellaw18_OutboxDecodes.calls k _ _ l0 true w (Kd.C_of_reads (d := (0 : Int)) (h1 := fun _ => rfl) hr0) hc0 h).mono ?_
 rintro e w' ⟨rfl, hd⟩
 exact ⟨rfl, hd⟩

end Go.Proofs.Ytdglbiafpofeeaa.POutboxDecodes
