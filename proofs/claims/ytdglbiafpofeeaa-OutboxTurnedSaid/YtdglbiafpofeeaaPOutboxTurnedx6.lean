-- Written by fprint.py (wip), by way of the printer's functions; where they are turned, by texts of mine.
import Derived.Test.YtdglbiafpofeeaaPOutboxTurnedx0
import Derived.Test.YtdglbiafpofeeaaPOutboxTurnedx1
import Derived.Test.YtdglbiafpofeeaaPOutboxTurnedx3
import Derived.Test.YtdglbiafpofeeaaPOutboxTurnedx4
import Derived.Test.YtdglbiafpofeeaaPOutboxTurnedx5
namespace Go.Proofs.Ytdglbiafpofeeaa.POutboxTurned
open Go.RowKit Go.Proofs.YtdglbiafpofeeaaW.PrintWords Go.Proofs.YtdglbiafpofeeaaW.PrintLast Go.Proofs.YtdglbiafpofeeaaW.PrintMore
attribute [local go_sem] max2_int min2_int max_two min_two max_three min_three max_four min_four   -- for this text's walks alone
set_option linter.unusedVariables false
set_option linter.unusedSimpArgs false
theorem kz6_1 {p_ : Prop} (h_ : p_ := by (with_reducible repeat (first | refine blk_drewN ?_ _ | refine blk_drew ?_ | refine blk_alloc ?_ _)); refine blk_put (cs := #[.int .i64 0, .int .i64 0, .int .i64 0, .string (⟨#[]⟩ : ByteArray), .int .i64 0, .bool false]) ?_ 5 _ rfl; (with_reducible repeat (first | refine blk_drewN ?_ _ | refine blk_drew ?_ | refine blk_alloc ?_ _)); refine blk_put (cs := #[.int .i64 0, .int .i64 0, .int .i64 0, .string (⟨#[]⟩ : ByteArray), .int .i64 0, .bool false]) ?_ 4 _ rfl; (with_reducible repeat (first | refine blk_drewN ?_ _ | refine blk_drew ?_ | refine blk_alloc ?_ _)); refine blk_put (cs := #[.int .i64 0, .int .i64 0, .int .i64 0, .string (⟨#[]⟩ : ByteArray), .int .i64 0, .bool false]) ?_ 3 _ rfl; (with_reducible repeat (first | refine blk_drewN ?_ _ | refine blk_drew ?_ | refine blk_alloc ?_ _)); refine blk_put (cs := #[.int .i64 0, .int .i64 0, .int .i64 0, .string (⟨#[]⟩ : ByteArray), .int .i64 0, .bool false]) ?_ 2 _ rfl; (with_reducible repeat (first | refine blk_drewN ?_ _ | refine blk_drew ?_ | refine blk_alloc ?_ _)); refine blk_put (cs := #[.int .i64 0, .int .i64 0, .int .i64 0, .string (⟨#[]⟩ : ByteArray), .int .i64 0, .bool false]) ?_ 1 _ rfl; (with_reducible repeat (first | refine blk_drewN ?_ _ | refine blk_drew ?_ | refine blk_alloc ?_ _)); refine blk_put (cs := #[.int .i64 0, .int .i64 0, .int .i64 0, .string (⟨#[]⟩ : ByteArray), .int .i64 0, .bool false]) ?_ 0 _ rfl; (with_reducible repeat (first | refine blk_drewN ?_ _ | refine blk_drew ?_ | refine blk_alloc ?_ _)); exact BK308.out) : p_ := h_
theorem kz6_2 {p_ : Prop} (h_ : p_ := by (with_reducible repeat (first | refine blk_drewN ?_ _ | refine blk_drew ?_ | refine blk_alloc ?_ _)); refine blk_put (cs := #[.int .i64 ((rd_T112 t314 0).f1), .int .i64 ((rd_T112 t314 1).f1), .int .i64 ((rd_T112 t314 2).f1), .string ((rd_T112 t314 3).f2), .int .i64 ((rd_T112 t314 4).f1), .bool false]) ?_ 5 _ rfl; (with_reducible repeat (first | refine blk_drewN ?_ _ | refine blk_drew ?_ | refine blk_alloc ?_ _)); refine blk_put (cs := #[.int .i64 ((rd_T112 t314 0).f1), .int .i64 ((rd_T112 t314 1).f1), .int .i64 ((rd_T112 t314 2).f1), .string ((rd_T112 t314 3).f2), .int .i64 0, .bool false]) ?_ 4 _ rfl; (with_reducible repeat (first | refine blk_drewN ?_ _ | refine blk_drew ?_ | refine blk_alloc ?_ _)); refine blk_put (cs := #[.int .i64 ((rd_T112 t314 0).f1), .int .i64 ((rd_T112 t314 1).f1), .int .i64 ((rd_T112 t314 2).f1), .string (⟨#[]⟩ : ByteArray), .int .i64 0, .bool false]) ?_ 3 _ rfl; (with_reducible repeat (first | refine blk_drewN ?_ _ | refine blk_drew ?_ | refine blk_alloc ?_ _)); refine blk_put (cs := #[.int .i64 ((rd_T112 t314 0).f1), .int .i64 ((rd_T112 t314 1).f1), .int .i64 0, .string (⟨#[]⟩ : ByteArray), .int .i64 0, .bool false]) ?_ 2 _ rfl; (with_reducible repeat (first | refine blk_drewN ?_ _ | refine blk_drew ?_ | refine blk_alloc ?_ _)); refine blk_put (cs := #[.int .i64 ((rd_T112 t314 0).f1), .int .i64 0, .int .i64 0, .string (⟨#[]⟩ : ByteArray), .int .i64 0, .bool false]) ?_ 1 _ rfl; (with_reducible repeat (first | refine blk_drewN ?_ _ | refine blk_drew ?_ | refine blk_alloc ?_ _)); refine blk_put (cs := #[.int .i64 0, .int .i64 0, .int .i64 0, .string (⟨#[]⟩ : ByteArray), .int .i64 0, .bool false]) ?_ 0 _ rfl; (with_reducible repeat (first | refine blk_drewN ?_ _ | refine blk_drew ?_ | refine blk_alloc ?_ _)); exact BK325.out) : p_ := h_
theorem kz6_3 {p_ : Prop} (h_ : p_ := by repeat (first | (with_reducible first | exact HB.out | apply below_alloc | apply pw_below_drewN | apply below_drew1 | refine below_set ?_ GE308.out) | exact HB.out)) : p_ := h_
theorem kz6_4 {p_ : Prop} (h_ : p_ := by (with_reducible repeat (first | refine blk_drewN ?_ _ | refine blk_drew ?_ | refine blk_alloc ?_ _)); refine blk_far ?_ NB308_325.out _; (with_reducible repeat (first | refine blk_drewN ?_ _ | refine blk_drew ?_ | refine blk_alloc ?_ _)); refine blk_far ?_ NB308_325.out _; (with_reducible repeat (first | refine blk_drewN ?_ _ | refine blk_drew ?_ | refine blk_alloc ?_ _)); refine blk_far ?_ NB308_325.out _; (with_reducible repeat (first | refine blk_drewN ?_ _ | refine blk_drew ?_ | refine blk_alloc ?_ _)); refine blk_far ?_ NB308_325.out _; (with_reducible repeat (first | refine blk_drewN ?_ _ | refine blk_drew ?_ | refine blk_alloc ?_ _)); refine blk_far ?_ NB308_325.out _; (with_reducible repeat (first | refine blk_drewN ?_ _ | refine blk_drew ?_ | refine blk_alloc ?_ _)); refine blk_far ?_ NB308_325.out _; (with_reducible repeat (first | refine blk_drewN ?_ _ | refine blk_drew ?_ | refine blk_alloc ?_ _)); exact BK308.out) : p_ := h_
theorem kz6_5 {p_ : Prop} (h_ : p_ := by (with_reducible repeat (first | refine blk_drewN ?_ _ | refine blk_drew ?_ | refine blk_alloc ?_ _)); exact BK308.out) : p_ := h_
theorem kz6_6 {p_ : Prop} (h_ : p_ := by (with_reducible repeat (first | apply Kd.R_alloc | apply Kd.R_drewN | apply Kd.R_drew)); exact (Kd.R_mono (Kd.R_far (p := ⟨gb325, 5, none⟩) (Kd.R_far (p := ⟨gb325, 4, none⟩) (Kd.R_far (p := ⟨gb325, 3, none⟩) (Kd.R_far (p := ⟨gb325, 2, none⟩) (Kd.R_far (p := ⟨gb325, 1, none⟩) (Kd.R_far (p := ⟨gb325, 0, none⟩) (Kd.R_types HO_7.out BK325.out (by decide)) (fun _ hk => hk.2) (.int .i64 ((rd_T112 t314 0).f1))) (fun _ hk => hk.2) (.int .i64 ((rd_T112 t314 1).f1))) (fun _ hk => hk.2) (.int .i64 ((rd_T112 t314 2).f1))) (fun _ hk => hk.2) (.string ((rd_T112 t314 3).f2))) (fun _ hk => hk.2) (.int .i64 ((rd_T112 t314 4).f1))) (fun _ hk => hk.2) (.bool (((rd_T112 t314 5).f1) == 1))) (fun _ h_ => h_.1))) : p_ := h_
theorem kz6_7 {p_ : Prop} (h_ : p_ := by repeat (first | (with_reducible first | exact HB.out | apply below_alloc | apply pw_below_drewN | apply below_drew1 | refine below_set ?_ GE308.out | refine below_set ?_ GE325.out) | exact HB.out)) : p_ := h_
theorem kz6_8 {p_ : Prop} (h_ : p_ := by first | (with_reducible assumption) | assumption) : p_ := h_
theorem kz6_9 {p_ : Prop} (h_ : p_ := by first | exact Kd.own_blk (Kd.R_ne HO_7.out BK325.out (by decide)) | (rw [add_block]; exact Kd.own_blk (Kd.R_ne HO_7.out BK325.out (by decide))) | (show (Addr.add _ _).block ≠ _; rw [add_block]; exact Kd.own_blk (Kd.R_ne HO_7.out BK325.out (by decide))) | (dsimp only; exact Kd.own_blk (Kd.R_ne HO_7.out BK325.out (by decide)))) : p_ := h_
theorem kz6_10 {p_ : Prop} (h_ : p_ := by (try simp only [List.map_toArray, List.map_cons, List.map_nil]); first | done | rfl | (simp only [List.length_drop, List.length_take]; rfl)) : p_ := h_
theorem kz6_11 {p_ : Prop} (h_ : p_ := by (with_reducible repeat (first | apply Kd.R_alloc | apply Kd.R_drewN | apply Kd.R_drew)); exact HO_7.out) : p_ := h_
theorem kz6_12 {p_ : Prop} (h_ : p_ := by repeat (first | (with_reducible first | exact HB.out | apply below_alloc | apply pw_below_drewN | apply below_drew1) | exact HB.out)) : p_ := h_

/-! ### outbox_Decode: function 38 -/
mutual
def outbox_Decode.j0 : Nat → List Int → List Int → Bool → Option (Int × Int × Int × ByteArray × Int × Bool × Int)
 | 0, _, _, _ => none
 | k + 1, x0, x4, x24 => if x24 = true then (some (0, 0, 0, (⟨#[]⟩ : ByteArray), 0, false, 2)) else ((pack_Read.f k x4).bind fun bt314 => (if bt314.2 = 0 then (if (bt314.1.length : Int) = 6 then ((pack_Item_79.f k bt314.1).bind fun t318 => (outbox_Decode.j1 k x0 bt314.1 t318)) else (outbox_Decode.j1 k x0 bt314.1 true)) else (outbox_Decode.j1 k x0 bt314.1 true)))
def outbox_Decode.j1 : Nat → List Int → List (S112) → Bool → Option (Int × Int × Int × ByteArray × Int × Bool × Int)
 | 0, _, _, _ => none
 | k + 1, x0, x7, x41 => if x41 = true then (some (0, 0, 0, (⟨#[]⟩ : ByteArray), 0, false, 2)) else (if 0 < (x7.length : Int) then (if 1 < (x7.length : Int) then (if 2 < (x7.length : Int) then (if 3 < (x7.length : Int) then (if 4 < (x7.length : Int) then (if 5 < (x7.length : Int) then ((outbox_Encode.f k ((rd_T112 x7 0).f1) ((rd_T112 x7 1).f1) ((rd_T112 x7 2).f1) ((rd_T112 x7 3).f2) ((rd_T112 x7 4).f1) (((rd_T112 x7 5).f1) == 1)).bind fun bt326 => (if bt326.2 = 0 then ((slices_Equal_byte_byte.f k bt326.1 x0).bind fun t330 => (if t330 = true then (some ((rd_T112 x7 0).f1, (rd_T112 x7 1).f1, (rd_T112 x7 2).f1, (rd_T112 x7 3).f2, (rd_T112 x7 4).f1, (((rd_T112 x7 5).f1) == 1), 0)) else (some (0, 0, 0, (⟨#[]⟩ : ByteArray), 0, false, 2)))) else (some (0, 0, 0, (⟨#[]⟩ : ByteArray), 0, false, 2)))) else (none)) else (none)) else (none)) else (none)) else (none)) else (none))
end
def outbox_Decode.f (k : Nat) (l0 : List Int) : Option (Int × Int × Int × ByteArray × Int × Bool × Int) := (seal_Open.f k l0).bind fun bt309 => (if bt309.2.2 = 0 then (outbox_Decode.j0 k l0 bt309.1 (bt309.2.1 != (l0.length : Int))) else (outbox_Decode.j0 k l0 bt309.1 true))
theorem outbox_Decode.mono_l : ∀ k, (∀ y0 y1 y2, LeO (outbox_Decode.j0 k y0 y1 y2) (outbox_Decode.j0 (k + 1) y0 y1 y2)) ∧ (∀ y0 y1 y2, LeO (outbox_Decode.j1 k y0 y1 y2) (outbox_Decode.j1 (k + 1) y0 y1 y2))
 | 0 => ⟨fun _ _ _ r h => by simp [outbox_Decode.j0] at h, fun _ _ _ r h => by simp [outbox_Decode.j1] at h⟩
 | k + 1 => by
  obtain ⟨ih0, ih1⟩ := outbox_Decode.mono_l k
  refine ⟨?_, ?_⟩
  ·intro y0 y1 y2
   unfold outbox_Decode.j0
   repeat' first
   | (with_reducible exact ih0 _ _ _)
   | (with_reducible exact ih1 _ _ _)
   | (with_reducible exact outbox_Encode.mono _ _ _ _ _ _ _)
   | (with_reducible exact pack_Item_79.mono _ _)
   | (with_reducible exact pack_Read.mono _ _)
   | (with_reducible exact seal_Open.mono _ _)
   | (with_reducible exact slices_Equal_byte_byte.mono _ _ _)
   | (with_reducible exact LeO.refl _)
   | (with_reducible exact LeO.none _)
   | (with_reducible refine LeO.ite ?_ ?_)
   | (with_reducible refine LeO.bind ?_ (fun _ => ?_))
   | exact ih0 _ _ _
   | exact ih1 _ _ _
   | exact outbox_Encode.mono _ _ _ _ _ _ _
   | exact pack_Item_79.mono _ _
   | exact pack_Read.mono _ _
   | exact seal_Open.mono _ _
   | exact slices_Equal_byte_byte.mono _ _ _
   | exact LeO.none _
   | refine LeO.ite ?_ ?_
   | refine LeO.bind ?_ (fun _ => ?_)
  ·intro y0 y1 y2
   unfold outbox_Decode.j1
   repeat' first
   | (with_reducible exact ih0 _ _ _)
   | (with_reducible exact ih1 _ _ _)
   | (with_reducible exact outbox_Encode.mono _ _ _ _ _ _ _)
   | (with_reducible exact pack_Item_79.mono _ _)
   | (with_reducible exact pack_Read.mono _ _)
   | (with_reducible exact seal_Open.mono _ _)
   | (with_reducible exact slices_Equal_byte_byte.mono _ _ _)
   | (with_reducible exact LeO.refl _)
   | (with_reducible exact LeO.none _)
   | (with_reducible refine LeO.ite ?_ ?_)
   | (with_reducible refine LeO.bind ?_ (fun _ => ?_))
   | exact ih0 _ _ _
   | exact ih1 _ _ _
   | exact outbox_Encode.mono _ _ _ _ _ _ _
   | exact pack_Item_79.mono _ _
   | exact pack_Read.mono _ _
   | exact seal_Open.mono _ _
   | exact slices_Equal_byte_byte.mono _ _ _
   | exact LeO.none _
   | refine LeO.ite ?_ ?_
   | refine LeO.bind ?_ (fun _ => ?_)
theorem outbox_Decode.mono : ∀ a0 k, LeO (outbox_Decode.f k a0) (outbox_Decode.f (k + 1) a0) := by
 intro a0 k
 obtain ⟨ih0, ih1⟩ := outbox_Decode.mono_l k
 unfold outbox_Decode.f
 repeat' first
   | (with_reducible exact ih0 _ _ _)
   | (with_reducible exact ih1 _ _ _)
   | (with_reducible exact outbox_Encode.mono _ _ _ _ _ _ _)
   | (with_reducible exact pack_Item_79.mono _ _)
   | (with_reducible exact pack_Read.mono _ _)
   | (with_reducible exact seal_Open.mono _ _)
   | (with_reducible exact slices_Equal_byte_byte.mono _ _ _)
   | (with_reducible exact LeO.refl _)
   | (with_reducible exact LeO.none _)
   | (with_reducible refine LeO.ite ?_ ?_)
   | (with_reducible refine LeO.bind ?_ (fun _ => ?_))
   | exact ih0 _ _ _
   | exact ih1 _ _ _
   | exact outbox_Encode.mono _ _ _ _ _ _ _
   | exact pack_Item_79.mono _ _
   | exact pack_Read.mono _ _
   | exact seal_Open.mono _ _
   | exact slices_Equal_byte_byte.mono _ _ _
   | exact LeO.none _
   | refine LeO.ite ?_ ?_
   | refine LeO.bind ?_ (fun _ => ?_)
def outbox_Decode.T7 : Bool × List (List Nat × List Nat) := (true, [([], []), ([0], [0]), ([1], [1]), ([2], [2]), ([], []), ([4], [4]), ([5], [5]), ([6], [6]), ([], []), ([8], [8]), ([9], [9]), ([10], [10]), ([], []), ([12], [12]), ([13], [13]), ([14], [14]), ([], []), ([16], [16]), ([17], [17]), ([18], [18]), ([], []), ([20], [20]), ([21], [21]), ([22], [22]), ([23], [23]), ([3, 7, 11, 15, 19, 24], [3, 7, 11, 15, 19, 24]), ([], []), ([26, 25, 0, 1, 2, 3, 4, 5, 6, 7, 8, 9, 10, 11, 12, 13, 14, 15, 16, 17, 18, 19, 20, 21, 22, 23, 24, 25, 26], [25, 26])])
def outbox_Decode.B7 : List Nat := [0, 1, 3, 7, 0, 16, 48, 112, 0, 256, 768, 1792, 0, 4096, 12288, 28672, 0, 65536, 196608, 458752, 0, 1048576, 3145728, 7340032, 15728640, 33554431, 0, 134217727]
theorem outbox_Decode.tab7 : rtab .any (opsOf Try.f38 7) = outbox_Decode.T7 := by kernel_rfl
theorem outbox_Decode.bits7 : waitsOk outbox_Decode.T7.2 outbox_Decode.B7 = true := by kernel_rfl
set_option maxHeartbeats 8000000 in
set_option maxRecDepth 100000 in
theorem outbox_Decode.calls (k : Nat) (A0 : Option Addr) (c0 : Nat) (l0 : List Int) (r1 : Int) (r2 : Int) (r3 : Int) (r4 : ByteArray) (r5 : Int) (r6 : Bool) (r7 : Int) (w : World) (hr0 : Kd.C (Kd.int .u8) w A0 l0.length l0) (hc0 : l0.length ≤ c0) (h : outbox_Decode.f k l0 = some (r1, r2, r3, r4, r5, r6, r7)) :
  Calls Try.prog 38 #[.slice A0 l0.length c0] w fun e w' => e = .returned (.tuple #[.agg #[.int .i64 r1, .int .i64 r2, .int .i64 r3, .string r4, .int .i64 r5, .bool r6], .int .i64 r7]) ∧ Below w.heap.size w w' := by
 have hu28 := Try.underlying28
 have HR0 := Aside0.mk hr0
 have HC0 := Aside0.mk hc0
 clear hr0 hc0
 have HB := Aside0.mk (Below.refl w.heap.size w)
 have H : ((seal_Open.f k l0).bind fun bt309 => (if bt309.2.2 = 0 then (outbox_Decode.j0 k l0 bt309.1 (bt309.2.1 != (l0.length : Int))) else (outbox_Decode.j0 k l0 bt309.1 true))) = some (r1, r2, r3, r4, r5, r6, r7) := h
 clear h
 replace H := Option.bind_eq_some_iff.mp H
 obtain ⟨⟨t309, t310, t311⟩, A20, H⟩ := H
 replace H : (if t311 = 0 then (outbox_Decode.j0 k l0 t309 (t310 != (l0.length : Int))) else (outbox_Decode.j0 k l0 t309 true)) = some (r1, r2, r3, r4, r5, r6, r7) := H
 have A2 := Aside0.mk A20
 clear A20
 have HC3 := Aside0.mk H
 clear H
 go_enter Try.func38, Try.ntmps38
 go_upto_region 2 with (first | ((with_reducible refine gate_dst (N := 2) rfl ?_); (try (refine gate_guard (by rfl) ?_; dsimp only)); refine box_event ?hg (N := 2) ?hd (cs := #[.int .i64 0, .int .i64 0, .int .i64 0, .string (⟨#[]⟩ : ByteArray), .int .i64 0, .bool false]) (t := 28) ?hr ?_; (case hd => rfl); (case hg => rfl); (case hr => first | (go_simp; done) | (go_simp; rfl)); intro gb308 hg w4 hbox hb; have n0_ := Aside0.mk (below_step kz6_12 hb); have n1_ := Aside0.mk (hbox); have n2_ := Aside0.mk ((by rw [hg]; exact (below_size kz6_12) : w.heap.size ≤ gb308)); have n3_ := Aside0.mk ((by rw [hg]; exact (below_size kz6_12) : w.heap.size ≤ gb308)); clear HB; have HB := n0_; have BK308 := n1_; have GW308 := n2_; have GE308 := n3_; clear n0_ n1_ n2_ n3_; clear hb hbox hg) | ((with_reducible refine gate_callee (f := 59) rfl ?_); refine goesL_ (some 13) rfl rfl Try.func59 (by kernel_rfl) rfl #[.slice A0 l0.length c0] rfl kz6_10 ?_; (with_reducible refine (seal_Open.calls k _ _ l0 t309 t310 t311 _ ?side1 ?side2 A2.out).mono ?_); (case side1 => repeat (first | exact (Kd.C_below HR0.out HB.out) | (with_reducible refine Kd.C_alloc ?_ _) | (with_reducible refine Kd.C_drewN ?_ _) | (with_reducible refine Kd.C_drew ?_))); (case side2 => exact HC0.out); rintro e w5 ⟨v312, rfl, ho0, hb⟩; refine ⟨_, rfl, ?_⟩; have n0_ := Aside0.mk (Kd.R_lower ho0 (below_size kz6_3)); have n1_ := Aside0.mk (blk_below (g := gb308) (o := .cells #[.int .i64 0, .int .i64 0, .int .i64 0, .string (⟨#[]⟩ : ByteArray), .int .i64 0, .bool false] 28 (0, 0)) kz6_5 hb); have n2_ := Aside0.mk (below_step kz6_3 hb); clear BK308; clear HB; have HO313 := n0_; have BK308 := n1_; have HB := n2_; clear n0_ n1_ n2_; (try clear hb); (try clear hb2); (try clear hk); (try clear hi); (try clear ho0)))
 (try simp only [Act.put, sA_, sB_, sC_])
 go_cut [24] (fun v24 wc => ∃ (kq : Nat) (x24_2 : Bool), v24 = .bool x24_2 ∧ Aside0 (outbox_Decode.j0 kq l0 t309 x24_2 = some (r1, r2, r3, r4, r5, r6, r7)) ∧ Aside0 (kq ≤ k) ∧ Aside0 (Kd.R (Kd.int .u8) 5 wc w.heap.size (fun _ => True) v312 t309) ∧ Aside0 (wc.heap[gb308]? = some (.cells #[.int .i64 0, .int .i64 0, .int .i64 0, .string (⟨#[]⟩ : ByteArray), .int .i64 0, .bool false] 28 (0, 0))) ∧ Aside0 (Below w.heap.size w wc))
 case first =>
  have H := HC3.out
  clear HC3
  by_cases c6 : t311 = 0
  ·rw [if_pos c6] at H
   have c6b0 : (t311 == 0) = true := beq_iff_eq.mpr c6
   have c6b1 : (t311 != 0) = false := bne_eq_false_iff_eq.mpr c6
   clear c6
   (first | rw [c6b0] | (simp only [i64_w, i32_w]; rw [c6b0]) | skip)
   have H' := Aside0.mk H
   clear H
   go_wp2
   go_meet
   case rel => exact ⟨_, ((t310 != (l0.length : Int))), (by first | rfl | (simp; done) | (simp [*]; done)), H', ⟨by first | omega | exact Nat.le_refl _⟩, ⟨by (with_reducible repeat (first | apply Kd.R_alloc | apply Kd.R_drewN | apply Kd.R_drew)); exact HO313.out⟩, ⟨by (with_reducible repeat (first | refine blk_drewN ?_ _ | refine blk_drew ?_ | refine blk_alloc ?_ _)); exact BK308.out⟩, ⟨by repeat (first | (with_reducible first | exact HB.out | apply below_alloc | apply pw_below_drewN | apply below_drew1 | refine below_set ?_ GE308.out) | exact HB.out)⟩⟩
  ·rw [if_neg c6] at H
   have c6b0 : (t311 == 0) = false := beq_eq_false_iff_ne.mpr c6
   have c6b1 : (t311 != 0) = true := bne_iff_ne.mpr c6
   (first | rw [c6b0] | (simp only [i64_w, i32_w]; rw [c6b0]) | skip)
   have H' := Aside0.mk H
   clear H
   go_wp2
   go_meet
   case rel => exact ⟨_, (true), (by first | rfl | (simp; done) | (simp [*]; done)), H', ⟨by first | omega | exact Nat.le_refl _⟩, ⟨by (with_reducible repeat (first | apply Kd.R_alloc | apply Kd.R_drewN | apply Kd.R_drew)); exact HO313.out⟩, ⟨by (with_reducible repeat (first | refine blk_drewN ?_ _ | refine blk_drew ?_ | refine blk_alloc ?_ _)); exact BK308.out⟩, ⟨by repeat (first | (with_reducible first | exact HB.out | apply below_alloc | apply pw_below_drewN | apply below_drew1 | refine below_set ?_ GE308.out) | exact HB.out)⟩⟩
 case rest =>
  clear HC3
  try clear p2
  try clear c3
  try clear c5
  try clear c6
  try clear c6b0
  try clear c6b1
  obtain ⟨kq, x24_2, rfl, HA, HJ2, HO_4, BK308, HB⟩ := hcut
  cases kq with
  | zero => exact absurd HA.out (by simp [outbox_Decode.j0])
  | succ kj2 =>
   have H := HA.out
   clear HA
   simp only [outbox_Decode.j0] at H
   by_cases c7 : x24_2 = true
   ·subst c7
    have H1 : (some (0, 0, 0, (⟨#[]⟩ : ByteArray), 0, false, 2)) = some (r1, r2, r3, r4, r5, r6, r7) := by rw [if_pos rfl] at H; exact H
    clear H
    have H := H1
    clear H1
    simp only [Option.some.injEq, Prod.mk.injEq] at H
    obtain ⟨rfl, rfl, rfl, rfl, rfl, rfl, rfl⟩ := H
    have hcz8_0 : wc.cell? ⟨gb308, 0, none⟩ = some (.int .i64 0) := (blk_cell BK308.out 0).trans rfl
    have hcz8_1 : wc.cell? ⟨gb308, 1, none⟩ = some (.int .i64 0) := (blk_cell BK308.out 1).trans rfl
    have hcz8_2 : wc.cell? ⟨gb308, 2, none⟩ = some (.int .i64 0) := (blk_cell BK308.out 2).trans rfl
    have hcz8_3 : wc.cell? ⟨gb308, 3, none⟩ = some (.string (⟨#[]⟩ : ByteArray)) := (blk_cell BK308.out 3).trans rfl
    have hcz8_4 : wc.cell? ⟨gb308, 4, none⟩ = some (.int .i64 0) := (blk_cell BK308.out 4).trans rfl
    have hcz8_5 : wc.cell? ⟨gb308, 5, none⟩ = some (.bool false) := (blk_cell BK308.out 5).trans rfl
    have hfz8_0 := blk_frozen BK308.out 0
    have hfz8_1 := blk_frozen BK308.out 1
    have hfz8_2 := blk_frozen BK308.out 2
    have hfz8_3 := blk_frozen BK308.out 3
    have hfz8_4 := blk_frozen BK308.out 4
    have hfz8_5 := blk_frozen BK308.out 5
    go_wp2
    refine bodyPost_ret (results_ct rfl _ _ gb308 28 #[.int .i64 0, .int .i64 0, .int .i64 0, .string (⟨#[]⟩ : ByteArray), .int .i64 0, .bool false] (0, 0) _ rfl kz6_1 Try.underlying28 rfl (by kernel_rfl)) rfl ?_
    exact ⟨by first | rfl | (simp [errW_none, errW_some] <;> rfl) | (simp [*, errW_none, errW_some] <;> rfl), by repeat (first | (with_reducible first | exact HB.out | apply below_alloc | apply pw_below_drewN | apply below_drew1 | refine below_set ?_ GE308.out) | exact HB.out)⟩
   ·replace c7 := Bool.eq_false_iff.mpr c7
    subst c7
    have H1 : ((pack_Read.f kj2 t309).bind fun bt314 => (if bt314.2 = 0 then (if (bt314.1.length : Int) = 6 then ((pack_Item_79.f kj2 bt314.1).bind fun t318 => (outbox_Decode.j1 kj2 l0 bt314.1 t318)) else (outbox_Decode.j1 kj2 l0 bt314.1 true)) else (outbox_Decode.j1 kj2 l0 bt314.1 true))) = some (r1, r2, r3, r4, r5, r6, r7) := by rw [if_neg (show ¬ (false = true) by decide)] at H; exact H
    clear H
    have H := H1
    clear H1
    replace H := Option.bind_eq_some_iff.mp H
    obtain ⟨⟨t314, t317⟩, A90, H⟩ := H
    replace H : (if t317 = 0 then (if (t314.length : Int) = 6 then ((pack_Item_79.f kj2 t314).bind fun t318 => (outbox_Decode.j1 kj2 l0 t314 t318)) else (outbox_Decode.j1 kj2 l0 t314 true)) else (outbox_Decode.j1 kj2 l0 t314 true)) = some (r1, r2, r3, r4, r5, r6, r7) := H
    have A9 := Aside0.mk A90
    clear A90
    have HC10 := Aside0.mk H
    clear H
    obtain ⟨Ao11, co11, eo11⟩ := Kd.R_slice HO_4.out
    subst eo11
    go_upto_region 5 with (first | ((with_reducible refine gate_callee (f := 60) rfl ?_); refine goesL_ (some 28) rfl rfl Try.func60 (by kernel_rfl) rfl #[.slice Ao11 t309.length co11] rfl kz6_10 ?_; (with_reducible refine (pack_Read.calls kj2 (fun k_ => some k_ = (.slice Ao11 t309.length co11 : Value).ownBlock) _ _ t309 t314 t317 _ ?side1 A9.out).mono ?_); (case side1 => exact Kd.R_V (Kd.R_tight rfl (Kd.R_types (HO_4.out) BK308.out (by decide)))); rintro e w12 ⟨v315, rfl, ho0, hb⟩; refine ⟨_, rfl, ?_⟩; have n0_ := Aside0.mk (Kd.R_below (by (with_reducible repeat (first | apply Kd.R_alloc | apply Kd.R_drewN | apply Kd.R_drew)); exact HO_4.out) hb); have n1_ := Aside0.mk (Kd.R_lower (Kd.R_mono (ok' := fun k_ => True) ho0 (fun _ hk_ => trivial)) (below_size kz6_3)); have n2_ := Aside0.mk (blk_below (g := gb308) (o := .cells #[.int .i64 0, .int .i64 0, .int .i64 0, .string (⟨#[]⟩ : ByteArray), .int .i64 0, .bool false] 28 (0, 0)) kz6_5 hb); have n3_ := Aside0.mk (below_step kz6_3 hb); clear HO_4; clear BK308; clear HB; have HO_4 := n0_; have HO316 := n1_; have BK308 := n2_; have HB := n3_; clear n0_ n1_ n2_ n3_; (try clear hb); (try clear hb2); (try clear hk); (try clear hi); (try clear ho0)))
    (try simp only [Act.put, sA_, sB_, sC_])
    go_cut [41] (fun v41 wc => ∃ (kq : Nat) (x41_9 : Bool), v41 = .bool x41_9 ∧ Aside0 (outbox_Decode.j1 kq l0 t314 x41_9 = some (r1, r2, r3, r4, r5, r6, r7)) ∧ Aside0 (kq ≤ kj2) ∧ Aside0 (Kd.R k112 112 wc w.heap.size (fun _ => True) v315 t314) ∧ Aside0 (wc.heap[gb308]? = some (.cells #[.int .i64 0, .int .i64 0, .int .i64 0, .string (⟨#[]⟩ : ByteArray), .int .i64 0, .bool false] 28 (0, 0))) ∧ Aside0 (Below w.heap.size w wc))
    case first =>
     have H := HC10.out
     clear HC10
     by_cases c13 : t317 = 0
     ·rw [if_pos c13] at H
      have c13b0 : (t317 == 0) = true := beq_iff_eq.mpr c13
      have c13b1 : (t317 != 0) = false := bne_eq_false_iff_eq.mpr c13
      clear c13
      (first | rw [c13b0] | (simp only [i64_w, i32_w]; rw [c13b0]) | skip)
      by_cases c14 : (t314.length : Int) = 6
      ·rw [if_pos c14] at H
       have c14b0 : ((t314.length : Int) == 6) = true := beq_iff_eq.mpr c14
       have c14b1 : ((t314.length : Int) != 6) = false := bne_eq_false_iff_eq.mpr c14
       clear c14
       replace H := Option.bind_eq_some_iff.mp H
       obtain ⟨t318, A150, H⟩ := H
       replace H : (outbox_Decode.j1 kj2 l0 t314 t318) = some (r1, r2, r3, r4, r5, r6, r7) := H
       have A15 := Aside0.mk A150
       clear A150
       have H' := Aside0.mk H
       clear H
       obtain ⟨Ao16, co16, eo16⟩ := Kd.R_slice HO316.out
       subst eo16
       go_wp2_with (first | (go_at_call 61; (with_reducible refine (pack_Item_79.calls kj2 _ _ t314 t318 _ ?side1 ?side2 A15.out).mono ?_); (case side1 => repeat (first | exact (Kd.R_reads' HO316.out).2.2 | (with_reducible refine Kd.C_alloc ?_ _) | (with_reducible refine Kd.C_drewN ?_ _) | (with_reducible refine Kd.C_drew ?_))); (case side2 => exact (Kd.R_reads' HO316.out).2.1); rintro e w17 ⟨rfl, hb⟩; have n0_ := Aside0.mk (Kd.R_below (by (with_reducible repeat (first | apply Kd.R_alloc | apply Kd.R_drewN | apply Kd.R_drew)); exact HO_4.out) hb); have n1_ := Aside0.mk (Kd.R_below (by (with_reducible repeat (first | apply Kd.R_alloc | apply Kd.R_drewN | apply Kd.R_drew)); exact HO316.out) hb); have n2_ := Aside0.mk (blk_below (g := gb308) (o := .cells #[.int .i64 0, .int .i64 0, .int .i64 0, .string (⟨#[]⟩ : ByteArray), .int .i64 0, .bool false] 28 (0, 0)) kz6_5 hb); have n3_ := Aside0.mk (below_step kz6_3 hb); clear HO_4; clear HO316; clear BK308; clear HB; have HO_4 := n0_; have HO316 := n1_; have BK308 := n2_; have HB := n3_; clear n0_ n1_ n2_ n3_; (try clear hb); (try clear hb2); (try clear hk); (try clear hi)))
       go_meet
       case rel => exact ⟨_, (t318), (by first | rfl | (simp; done) | (simp [*]; done)), H', ⟨by have := HJ2.out; first | omega | exact Nat.le_refl _⟩, ⟨by (with_reducible repeat (first | apply Kd.R_alloc | apply Kd.R_drewN | apply Kd.R_drew)); exact HO316.out⟩, ⟨by (with_reducible repeat (first | refine blk_drewN ?_ _ | refine blk_drew ?_ | refine blk_alloc ?_ _)); exact BK308.out⟩, ⟨by repeat (first | (with_reducible first | exact HB.out | apply below_alloc | apply pw_below_drewN | apply below_drew1 | refine below_set ?_ GE308.out) | exact HB.out)⟩⟩
      ·rw [if_neg c14] at H
       have c14b0 : ((t314.length : Int) == 6) = false := beq_eq_false_iff_ne.mpr c14
       have c14b1 : ((t314.length : Int) != 6) = true := bne_iff_ne.mpr c14
       have H' := Aside0.mk H
       clear H
       obtain ⟨Ao18, co18, eo18⟩ := Kd.R_slice HO316.out
       subst eo18
       go_wp2
       go_meet
       case rel => exact ⟨_, (true), (by first | rfl | (simp; done) | (simp [*]; done)), H', ⟨by have := HJ2.out; first | omega | exact Nat.le_refl _⟩, ⟨by (with_reducible repeat (first | apply Kd.R_alloc | apply Kd.R_drewN | apply Kd.R_drew)); exact HO316.out⟩, ⟨by (with_reducible repeat (first | refine blk_drewN ?_ _ | refine blk_drew ?_ | refine blk_alloc ?_ _)); exact BK308.out⟩, ⟨by repeat (first | (with_reducible first | exact HB.out | apply below_alloc | apply pw_below_drewN | apply below_drew1 | refine below_set ?_ GE308.out) | exact HB.out)⟩⟩
     ·rw [if_neg c13] at H
      have c13b0 : (t317 == 0) = false := beq_eq_false_iff_ne.mpr c13
      have c13b1 : (t317 != 0) = true := bne_iff_ne.mpr c13
      (first | rw [c13b0] | (simp only [i64_w, i32_w]; rw [c13b0]) | skip)
      have H' := Aside0.mk H
      clear H
      go_wp2
      go_meet
      case rel => exact ⟨_, (true), (by first | rfl | (simp; done) | (simp [*]; done)), H', ⟨by have := HJ2.out; first | omega | exact Nat.le_refl _⟩, ⟨by (with_reducible repeat (first | apply Kd.R_alloc | apply Kd.R_drewN | apply Kd.R_drew)); exact HO316.out⟩, ⟨by (with_reducible repeat (first | refine blk_drewN ?_ _ | refine blk_drew ?_ | refine blk_alloc ?_ _)); exact BK308.out⟩, ⟨by repeat (first | (with_reducible first | exact HB.out | apply below_alloc | apply pw_below_drewN | apply below_drew1 | refine below_set ?_ GE308.out) | exact HB.out)⟩⟩
    case rest =>
     clear HC10
     try clear c1
     try clear p2
     try clear c3
     try clear c5
     try clear c6
     try clear c6b0
     try clear c6b1
     try clear c7
     try clear c13
     try clear c13b0
     try clear c13b1
     try clear c14
     try clear c14b0
     try clear c14b1
     try clear hcz8_0
     try clear hcz8_1
     try clear hcz8_2
     try clear hcz8_3
     try clear hcz8_4
     try clear hcz8_5
     try clear hfz8_0
     try clear hfz8_1
     try clear hfz8_2
     try clear hfz8_3
     try clear hfz8_4
     try clear hfz8_5
     try clear p2
     obtain ⟨kq, x41_9, rfl, HA, HJ9, HO_7, BK308, HB⟩ := hcut
     cases kq with
     | zero => exact absurd HA.out (by simp [outbox_Decode.j1])
     | succ kj9 =>
      have H := HA.out
      clear HA
      simp only [outbox_Decode.j1] at H
      by_cases c19 : x41_9 = true
      ·subst c19
       have H1 : (some (0, 0, 0, (⟨#[]⟩ : ByteArray), 0, false, 2)) = some (r1, r2, r3, r4, r5, r6, r7) := by rw [if_pos rfl] at H; exact H
       clear H
       have H := H1
       clear H1
       simp only [Option.some.injEq, Prod.mk.injEq] at H
       obtain ⟨rfl, rfl, rfl, rfl, rfl, rfl, rfl⟩ := H
       have hcz20_0 : wc.cell? ⟨gb308, 0, none⟩ = some (.int .i64 0) := (blk_cell BK308.out 0).trans rfl
       have hcz20_1 : wc.cell? ⟨gb308, 1, none⟩ = some (.int .i64 0) := (blk_cell BK308.out 1).trans rfl
       have hcz20_2 : wc.cell? ⟨gb308, 2, none⟩ = some (.int .i64 0) := (blk_cell BK308.out 2).trans rfl
       have hcz20_3 : wc.cell? ⟨gb308, 3, none⟩ = some (.string (⟨#[]⟩ : ByteArray)) := (blk_cell BK308.out 3).trans rfl
       have hcz20_4 : wc.cell? ⟨gb308, 4, none⟩ = some (.int .i64 0) := (blk_cell BK308.out 4).trans rfl
       have hcz20_5 : wc.cell? ⟨gb308, 5, none⟩ = some (.bool false) := (blk_cell BK308.out 5).trans rfl
       have hfz20_0 := blk_frozen BK308.out 0
       have hfz20_1 := blk_frozen BK308.out 1
       have hfz20_2 := blk_frozen BK308.out 2
       have hfz20_3 := blk_frozen BK308.out 3
       have hfz20_4 := blk_frozen BK308.out 4
       have hfz20_5 := blk_frozen BK308.out 5
       go_wp2
       refine bodyPost_ret (results_ct rfl _ _ gb308 28 #[.int .i64 0, .int .i64 0, .int .i64 0, .string (⟨#[]⟩ : ByteArray), .int .i64 0, .bool false] (0, 0) _ rfl kz6_1 Try.underlying28 rfl (by kernel_rfl)) rfl ?_
       exact ⟨by first | rfl | (simp [errW_none, errW_some] <;> rfl) | (simp [*, errW_none, errW_some] <;> rfl), by repeat (first | (with_reducible first | exact HB.out | apply below_alloc | apply pw_below_drewN | apply below_drew1 | refine below_set ?_ GE308.out) | exact HB.out)⟩
      ·replace c19 := Bool.eq_false_iff.mpr c19
       subst c19
       have H1 : (if 0 < (t314.length : Int) then (if 1 < (t314.length : Int) then (if 2 < (t314.length : Int) then (if 3 < (t314.length : Int) then (if 4 < (t314.length : Int) then (if 5 < (t314.length : Int) then ((outbox_Encode.f kj9 ((rd_T112 t314 0).f1) ((rd_T112 t314 1).f1) ((rd_T112 t314 2).f1) ((rd_T112 t314 3).f2) ((rd_T112 t314 4).f1) (((rd_T112 t314 5).f1) == 1)).bind fun bt326 => (if bt326.2 = 0 then ((slices_Equal_byte_byte.f kj9 bt326.1 l0).bind fun t330 => (if t330 = true then (some ((rd_T112 t314 0).f1, (rd_T112 t314 1).f1, (rd_T112 t314 2).f1, (rd_T112 t314 3).f2, (rd_T112 t314 4).f1, (((rd_T112 t314 5).f1) == 1), 0)) else (some (0, 0, 0, (⟨#[]⟩ : ByteArray), 0, false, 2)))) else (some (0, 0, 0, (⟨#[]⟩ : ByteArray), 0, false, 2)))) else (none)) else (none)) else (none)) else (none)) else (none)) else (none)) = some (r1, r2, r3, r4, r5, r6, r7) := by rw [if_neg (show ¬ (false = true) by decide)] at H; exact H
       clear H
       have H := H1
       clear H1
       by_cases c21 : 0 < (t314.length : Int)
       ·rw [if_pos c21] at H
        have c21b0 : decide (0 < (t314.length : Int)) = true := decide_eq_true c21
        have c21b1 : decide (0 < t314.length) = true := decide_eq_true (by omega)
        clear c21
        by_cases c22 : 1 < (t314.length : Int)
        ·rw [if_pos c22] at H
         have c22b0 : decide (1 < (t314.length : Int)) = true := decide_eq_true c22
         have c22b1 : decide (1 < t314.length) = true := decide_eq_true (by omega)
         clear c22
         by_cases c23 : 2 < (t314.length : Int)
         ·rw [if_pos c23] at H
          have c23b0 : decide (2 < (t314.length : Int)) = true := decide_eq_true c23
          have c23b1 : decide (2 < t314.length) = true := decide_eq_true (by omega)
          clear c23
          by_cases c24 : 3 < (t314.length : Int)
          ·rw [if_pos c24] at H
           have c24b0 : decide (3 < (t314.length : Int)) = true := decide_eq_true c24
           have c24b1 : decide (3 < t314.length) = true := decide_eq_true (by omega)
           clear c24
           by_cases c25 : 4 < (t314.length : Int)
           ·rw [if_pos c25] at H
            have c25b0 : decide (4 < (t314.length : Int)) = true := decide_eq_true c25
            have c25b1 : decide (4 < t314.length) = true := decide_eq_true (by omega)
            clear c25
            by_cases c26 : 5 < (t314.length : Int)
            ·rw [if_pos c26] at H
             have c26b0 : decide (5 < (t314.length : Int)) = true := decide_eq_true c26
             have c26b1 : decide (5 < t314.length) = true := decide_eq_true (by omega)
             clear c26
             replace H := Option.bind_eq_some_iff.mp H
             obtain ⟨⟨t326, t329⟩, A270, H⟩ := H
             replace H : (if t329 = 0 then ((slices_Equal_byte_byte.f kj9 t326 l0).bind fun t330 => (if t330 = true then (some ((rd_T112 t314 0).f1, (rd_T112 t314 1).f1, (rd_T112 t314 2).f1, (rd_T112 t314 3).f2, (rd_T112 t314 4).f1, (((rd_T112 t314 5).f1) == 1), 0)) else (some (0, 0, 0, (⟨#[]⟩ : ByteArray), 0, false, 2)))) else (some (0, 0, 0, (⟨#[]⟩ : ByteArray), 0, false, 2))) = some (r1, r2, r3, r4, r5, r6, r7) := H
             have A27 := Aside0.mk A270
             clear A270
             by_cases c28 : t329 = 0
             ·rw [if_pos c28] at H
              have c28b0 : (t329 == 0) = true := beq_iff_eq.mpr c28
              have c28b1 : (t329 != 0) = false := bne_eq_false_iff_eq.mpr c28
              clear c28
              replace H := Option.bind_eq_some_iff.mp H
              obtain ⟨t330, A290, H⟩ := H
              replace H : (if t330 = true then (some ((rd_T112 t314 0).f1, (rd_T112 t314 1).f1, (rd_T112 t314 2).f1, (rd_T112 t314 3).f2, (rd_T112 t314 4).f1, (((rd_T112 t314 5).f1) == 1), 0)) else (some (0, 0, 0, (⟨#[]⟩ : ByteArray), 0, false, 2))) = some (r1, r2, r3, r4, r5, r6, r7) := H
              have A29 := Aside0.mk A290
              clear A290
              by_cases c30 : t330 = true
              ·subst c30
               have H1 : (some ((rd_T112 t314 0).f1, (rd_T112 t314 1).f1, (rd_T112 t314 2).f1, (rd_T112 t314 3).f2, (rd_T112 t314 4).f1, (((rd_T112 t314 5).f1) == 1), 0)) = some (r1, r2, r3, r4, r5, r6, r7) := by rw [if_pos rfl] at H; exact H
               clear H
               have H := H1
               clear H1
               simp only [Option.some.injEq, Prod.mk.injEq] at H
               obtain ⟨rfl, rfl, rfl, rfl, rfl, rfl, rfl⟩ := H
               try go_wp2
               have n0_ := Aside0.mk (Kd.R_drew HO_7.out)
               have n1_ := Aside0.mk (blk_drew BK308.out)
               have n2_ := Aside0.mk (below_drew1 HB.out)
               clear HO_7
               clear BK308
               clear HB
               have HO_7 := n0_
               have BK308 := n1_
               have HB := n2_
               clear n0_ n1_ n2_
               obtain ⟨Ao32, co32, eo32⟩ := Kd.R_slice HO_7.out
               (first | subst eo32 | (injection eo32 with f1_ f2_ f3_; have f4_ := f1_.symm; have f5_ := f3_.symm; clear f1_ f2_ f3_; subst f4_; subst f5_))
               have p319 : 0 ≤ (0 : Int) := (by omega)
               have q319 : 0 < (t314.length : Int) := of_decide_eq_true kz6_8
               obtain ⟨ad319, e319, hx319_0, hx319_1, hx319_2⟩ := at_T112 (Kd.R_reads' HO_7.out).2.2 0 p319 q319
               cases e319
               have qi319 : (0 < t314.length) = True := eq_true (by omega)
               (try rw [show ((0 : Int)).toNat = 0 from rfl] at hx319_0)
               (try rw [show 0 * 3 = 0 from rfl] at hx319_0)
               (try rw [Addr.add_zero'] at hx319_0)
               (try rw [show ((0 : Int)).toNat = 0 from rfl] at hx319_1)
               (try rw [show 0 * 3 = 0 from rfl] at hx319_1)
               (try rw [Addr.add_zero'] at hx319_1)
               (try rw [show ((0 : Int)).toNat = 0 from rfl] at hx319_2)
               (try rw [show 0 * 3 = 0 from rfl] at hx319_2)
               (try rw [Addr.add_zero'] at hx319_2)
               replace p319 := eq_true p319
               replace q319 := eq_true q319
               have p320 : 0 ≤ (1 : Int) := (by omega)
               have q320 : 1 < (t314.length : Int) := of_decide_eq_true kz6_8
               obtain ⟨ad320, e320, hx320_0, hx320_1, hx320_2⟩ := at_T112 (Kd.R_reads' HO_7.out).2.2 1 p320 q320
               obtain rfl : ad319 = ad320 := (by injection e320)
               (try simp only [show (1 : Int).toNat = 1 from rfl, Nat.reduceMul, Nat.reduceEqDiff, Go.Addr.add, ↓reduceIte] at hx320_0)
               (try simp only [show (1 : Int).toNat = 1 from rfl, Nat.reduceMul, Nat.reduceEqDiff, Go.Addr.add, ↓reduceIte] at hx320_1)
               (try simp only [show (1 : Int).toNat = 1 from rfl, Nat.reduceMul, Nat.reduceEqDiff, Go.Addr.add, ↓reduceIte] at hx320_2)
               have qi320 : (1 < t314.length) = True := eq_true (by omega)
               (try rw [show ((1 : Int)).toNat = 1 from rfl] at hx320_0)
               (try rw [show 1 * 3 = 3 from rfl] at hx320_0)
               (try rw [show ((1 : Int)).toNat = 1 from rfl] at hx320_1)
               (try rw [show 1 * 3 = 3 from rfl] at hx320_1)
               (try rw [show ((1 : Int)).toNat = 1 from rfl] at hx320_2)
               (try rw [show 1 * 3 = 3 from rfl] at hx320_2)
               replace p320 := eq_true p320
               replace q320 := eq_true q320
               have p321 : 0 ≤ (2 : Int) := (by omega)
               have q321 : 2 < (t314.length : Int) := of_decide_eq_true kz6_8
               obtain ⟨ad321, e321, hx321_0, hx321_1, hx321_2⟩ := at_T112 (Kd.R_reads' HO_7.out).2.2 2 p321 q321
               obtain rfl : ad319 = ad321 := (by injection e321)
               (try simp only [show (2 : Int).toNat = 2 from rfl, Nat.reduceMul, Nat.reduceEqDiff, Go.Addr.add, ↓reduceIte] at hx321_0)
               (try simp only [show (2 : Int).toNat = 2 from rfl, Nat.reduceMul, Nat.reduceEqDiff, Go.Addr.add, ↓reduceIte] at hx321_1)
               (try simp only [show (2 : Int).toNat = 2 from rfl, Nat.reduceMul, Nat.reduceEqDiff, Go.Addr.add, ↓reduceIte] at hx321_2)
               have qi321 : (2 < t314.length) = True := eq_true (by omega)
               (try rw [show ((2 : Int)).toNat = 2 from rfl] at hx321_0)
               (try rw [show 2 * 3 = 6 from rfl] at hx321_0)
               (try rw [show ((2 : Int)).toNat = 2 from rfl] at hx321_1)
               (try rw [show 2 * 3 = 6 from rfl] at hx321_1)
               (try rw [show ((2 : Int)).toNat = 2 from rfl] at hx321_2)
               (try rw [show 2 * 3 = 6 from rfl] at hx321_2)
               replace p321 := eq_true p321
               replace q321 := eq_true q321
               have p322 : 0 ≤ (3 : Int) := (by omega)
               have q322 : 3 < (t314.length : Int) := of_decide_eq_true kz6_8
               obtain ⟨ad322, e322, hx322_0, hx322_1, hx322_2⟩ := at_T112 (Kd.R_reads' HO_7.out).2.2 3 p322 q322
               obtain rfl : ad319 = ad322 := (by injection e322)
               (try simp only [show (3 : Int).toNat = 3 from rfl, Nat.reduceMul, Nat.reduceEqDiff, Go.Addr.add, ↓reduceIte] at hx322_0)
               (try simp only [show (3 : Int).toNat = 3 from rfl, Nat.reduceMul, Nat.reduceEqDiff, Go.Addr.add, ↓reduceIte] at hx322_1)
               (try simp only [show (3 : Int).toNat = 3 from rfl, Nat.reduceMul, Nat.reduceEqDiff, Go.Addr.add, ↓reduceIte] at hx322_2)
               have qi322 : (3 < t314.length) = True := eq_true (by omega)
               (try rw [show ((3 : Int)).toNat = 3 from rfl] at hx322_0)
               (try rw [show 3 * 3 = 9 from rfl] at hx322_0)
               (try rw [show ((3 : Int)).toNat = 3 from rfl] at hx322_1)
               (try rw [show 3 * 3 = 9 from rfl] at hx322_1)
               (try rw [show ((3 : Int)).toNat = 3 from rfl] at hx322_2)
               (try rw [show 3 * 3 = 9 from rfl] at hx322_2)
               replace p322 := eq_true p322
               replace q322 := eq_true q322
               have p323 : 0 ≤ (4 : Int) := (by omega)
               have q323 : 4 < (t314.length : Int) := of_decide_eq_true kz6_8
               obtain ⟨ad323, e323, hx323_0, hx323_1, hx323_2⟩ := at_T112 (Kd.R_reads' HO_7.out).2.2 4 p323 q323
               obtain rfl : ad319 = ad323 := (by injection e323)
               (try simp only [show (4 : Int).toNat = 4 from rfl, Nat.reduceMul, Nat.reduceEqDiff, Go.Addr.add, ↓reduceIte] at hx323_0)
               (try simp only [show (4 : Int).toNat = 4 from rfl, Nat.reduceMul, Nat.reduceEqDiff, Go.Addr.add, ↓reduceIte] at hx323_1)
               (try simp only [show (4 : Int).toNat = 4 from rfl, Nat.reduceMul, Nat.reduceEqDiff, Go.Addr.add, ↓reduceIte] at hx323_2)
               have qi323 : (4 < t314.length) = True := eq_true (by omega)
               (try rw [show ((4 : Int)).toNat = 4 from rfl] at hx323_0)
               (try rw [show 4 * 3 = 12 from rfl] at hx323_0)
               (try rw [show ((4 : Int)).toNat = 4 from rfl] at hx323_1)
               (try rw [show 4 * 3 = 12 from rfl] at hx323_1)
               (try rw [show ((4 : Int)).toNat = 4 from rfl] at hx323_2)
               (try rw [show 4 * 3 = 12 from rfl] at hx323_2)
               replace p323 := eq_true p323
               replace q323 := eq_true q323
               have p324 : 0 ≤ (5 : Int) := (by omega)
               have q324 : 5 < (t314.length : Int) := of_decide_eq_true kz6_8
               obtain ⟨ad324, e324, hx324_0, hx324_1, hx324_2⟩ := at_T112 (Kd.R_reads' HO_7.out).2.2 5 p324 q324
               obtain rfl : ad319 = ad324 := (by injection e324)
               (try simp only [show (5 : Int).toNat = 5 from rfl, Nat.reduceMul, Nat.reduceEqDiff, Go.Addr.add, ↓reduceIte] at hx324_0)
               (try simp only [show (5 : Int).toNat = 5 from rfl, Nat.reduceMul, Nat.reduceEqDiff, Go.Addr.add, ↓reduceIte] at hx324_1)
               (try simp only [show (5 : Int).toNat = 5 from rfl, Nat.reduceMul, Nat.reduceEqDiff, Go.Addr.add, ↓reduceIte] at hx324_2)
               have qi324 : (5 < t314.length) = True := eq_true (by omega)
               (try rw [show ((5 : Int)).toNat = 5 from rfl] at hx324_0)
               (try rw [show 5 * 3 = 15 from rfl] at hx324_0)
               (try rw [show ((5 : Int)).toNat = 5 from rfl] at hx324_1)
               (try rw [show 5 * 3 = 15 from rfl] at hx324_1)
               (try rw [show ((5 : Int)).toNat = 5 from rfl] at hx324_2)
               (try rw [show 5 * 3 = 15 from rfl] at hx324_2)
               replace p324 := eq_true p324
               replace q324 := eq_true q324
               refine start_ (n := 28) (S := fun w' => w'.cell? ad319 = some (.bool ((rd_T112 t314 0).f0)) ∧ w'.cell? ⟨ad319.block, ad319.off + 1, none⟩ = some (.int .i64 ((rd_T112 t314 0).f1)) ∧ w'.cell? ⟨ad319.block, ad319.off + 2, none⟩ = some (.string ((rd_T112 t314 0).f2)) ∧ w'.cell? ⟨ad319.block, ad319.off + 3, none⟩ = some (.bool ((rd_T112 t314 1).f0)) ∧ w'.cell? ⟨ad319.block, ad319.off + 3 + 1, none⟩ = some (.int .i64 ((rd_T112 t314 1).f1)) ∧ w'.cell? ⟨ad319.block, ad319.off + 3 + 2, none⟩ = some (.string ((rd_T112 t314 1).f2)) ∧ w'.cell? ⟨ad319.block, ad319.off + 6, none⟩ = some (.bool ((rd_T112 t314 2).f0)) ∧ w'.cell? ⟨ad319.block, ad319.off + 6 + 1, none⟩ = some (.int .i64 ((rd_T112 t314 2).f1)) ∧ w'.cell? ⟨ad319.block, ad319.off + 6 + 2, none⟩ = some (.string ((rd_T112 t314 2).f2)) ∧ w'.cell? ⟨ad319.block, ad319.off + 9, none⟩ = some (.bool ((rd_T112 t314 3).f0)) ∧ w'.cell? ⟨ad319.block, ad319.off + 9 + 1, none⟩ = some (.int .i64 ((rd_T112 t314 3).f1)) ∧ w'.cell? ⟨ad319.block, ad319.off + 9 + 2, none⟩ = some (.string ((rd_T112 t314 3).f2)) ∧ w'.cell? ⟨ad319.block, ad319.off + 12, none⟩ = some (.bool ((rd_T112 t314 4).f0)) ∧ w'.cell? ⟨ad319.block, ad319.off + 12 + 1, none⟩ = some (.int .i64 ((rd_T112 t314 4).f1)) ∧ w'.cell? ⟨ad319.block, ad319.off + 12 + 2, none⟩ = some (.string ((rd_T112 t314 4).f2)) ∧ w'.cell? ⟨ad319.block, ad319.off + 15, none⟩ = some (.bool ((rd_T112 t314 5).f0)) ∧ w'.cell? ⟨ad319.block, ad319.off + 15 + 1, none⟩ = some (.int .i64 ((rd_T112 t314 5).f1)) ∧ w'.cell? ⟨ad319.block, ad319.off + 15 + 2, none⟩ = some (.string ((rd_T112 t314 5).f2))) (ds := []) #[false, false, false, false, false, false, false, false, false, false, false, false, false, false, false, false, false, false, false, false, false, false, false, false, false, false, false, false] (by kernel_rfl) rfl rfl ⟨hx319_0, hx319_1, hx319_2, hx320_0, hx320_1, hx320_2, hx321_0, hx321_1, hx321_2, hx322_0, hx322_1, hx322_2, hx323_0, hx323_1, hx323_2, hx324_0, hx324_1, hx324_2⟩ (fun hHeld => ?_); refine with_tabW outbox_Decode.tab7 outbox_Decode.bits7 (fun HT_ HW_ => ?_)
               generalize wc.drew = w31 at HO_7 BK308 HB hx319_0 hx319_1 hx319_2 hx320_0 hx320_1 hx320_2 hx321_0 hx321_1 hx321_2 hx322_0 hx322_1 hx322_2 hx323_0 hx323_1 hx323_2 hx324_0 hx324_1 hx324_2 hHeld ⊢
               refine pure_ (i := 0) (N := some 43) (v := ?_) (a' := ?_) #[true, false, false, false, false, false, false, false, false, false, false, false, false, false, false, false, false, false, false, false, false, false, false, false, false, false, false, false] rfl rfl (any_of HT_.out (by kernel_rfl)) (fun _ _ _ h => h) (Or.inl ⟨by rfl, ?_⟩) ?_ ?_
               rotate_left
               ·intro w'
                go_simp
                with_reducible rfl
               rotate_left
               ·simp only [Act.put, sA_, sB_, sC_, i64_w, i32_w]
                rfl
               refine pure_ (i := 1) (N := some 44) (v := ?_) (a' := ?_) #[true, true, false, false, false, false, false, false, false, false, false, false, false, false, false, false, false, false, false, false, false, false, false, false, false, false, false, false] rfl rfl (any_of HT_.out (by kernel_rfl)) (fun _ _ _ h => h) (Or.inl ⟨by rfl, ?_⟩) ?_ ?_
               rotate_left
               ·intro w'
                go_simp
                with_reducible rfl
               rotate_left
               ·simp only [Act.put, sA_, sB_, sC_, i64_w, i32_w]
                rfl
               refine pure_ (i := 2) (N := some 45) (v := ?_) (a' := ?_) #[true, true, true, false, false, false, false, false, false, false, false, false, false, false, false, false, false, false, false, false, false, false, false, false, false, false, false, false] rfl rfl (any_of HT_.out (by kernel_rfl)) (fun _ _ _ h => h) (Or.inl ⟨by rfl, ?_⟩) ?_ ?_
               rotate_left
               ·intro w'
                go_simp
                with_reducible rfl
               rotate_left
               ·simp only [Act.put, sA_, sB_, sC_, i64_w, i32_w]
                rfl
               refine pure_ (i := 4) (N := some 47) (v := ?_) (a' := ?_) #[true, true, true, false, true, false, false, false, false, false, false, false, false, false, false, false, false, false, false, false, false, false, false, false, false, false, false, false] rfl rfl (any_of HT_.out (by kernel_rfl)) (fun _ _ _ h => h) (Or.inl ⟨by rfl, ?_⟩) ?_ ?_
               rotate_left
               ·intro w'
                go_simp
                with_reducible rfl
               rotate_left
               ·simp only [Act.put, sA_, sB_, sC_, i64_w, i32_w]
                rfl
               refine pure_ (i := 5) (N := some 48) (v := ?_) (a' := ?_) #[true, true, true, false, true, true, false, false, false, false, false, false, false, false, false, false, false, false, false, false, false, false, false, false, false, false, false, false] rfl rfl (any_of HT_.out (by kernel_rfl)) (fun _ _ _ h => h) (Or.inl ⟨by rfl, ?_⟩) ?_ ?_
               rotate_left
               ·intro w'
                go_simp
                with_reducible rfl
               rotate_left
               ·simp only [Act.put, sA_, sB_, sC_, i64_w, i32_w]
                rfl
               refine pure_ (i := 6) (N := some 49) (v := ?_) (a' := ?_) #[true, true, true, false, true, true, true, false, false, false, false, false, false, false, false, false, false, false, false, false, false, false, false, false, false, false, false, false] rfl rfl (any_of HT_.out (by kernel_rfl)) (fun _ _ _ h => h) (Or.inl ⟨by rfl, ?_⟩) ?_ ?_
               rotate_left
               ·intro w'
                go_simp
                with_reducible rfl
               rotate_left
               ·simp only [Act.put, sA_, sB_, sC_, i64_w, i32_w]
                rfl
               refine pure_ (i := 8) (N := some 51) (v := ?_) (a' := ?_) #[true, true, true, false, true, true, true, false, true, false, false, false, false, false, false, false, false, false, false, false, false, false, false, false, false, false, false, false] rfl rfl (any_of HT_.out (by kernel_rfl)) (fun _ _ _ h => h) (Or.inl ⟨by rfl, ?_⟩) ?_ ?_
               rotate_left
               ·intro w'
                go_simp
                with_reducible rfl
               rotate_left
               ·simp only [Act.put, sA_, sB_, sC_, i64_w, i32_w]
                rfl
               refine pure_ (i := 9) (N := some 52) (v := ?_) (a' := ?_) #[true, true, true, false, true, true, true, false, true, true, false, false, false, false, false, false, false, false, false, false, false, false, false, false, false, false, false, false] rfl rfl (any_of HT_.out (by kernel_rfl)) (fun _ _ _ h => h) (Or.inl ⟨by rfl, ?_⟩) ?_ ?_
               rotate_left
               ·intro w'
                go_simp
                with_reducible rfl
               rotate_left
               ·simp only [Act.put, sA_, sB_, sC_, i64_w, i32_w]
                rfl
               refine pure_ (i := 10) (N := some 53) (v := ?_) (a' := ?_) #[true, true, true, false, true, true, true, false, true, true, true, false, false, false, false, false, false, false, false, false, false, false, false, false, false, false, false, false] rfl rfl (any_of HT_.out (by kernel_rfl)) (fun _ _ _ h => h) (Or.inl ⟨by rfl, ?_⟩) ?_ ?_
               rotate_left
               ·intro w'
                go_simp
                with_reducible rfl
               rotate_left
               ·simp only [Act.put, sA_, sB_, sC_, i64_w, i32_w]
                rfl
               refine pure_ (i := 12) (N := some 55) (v := ?_) (a' := ?_) #[true, true, true, false, true, true, true, false, true, true, true, false, true, false, false, false, false, false, false, false, false, false, false, false, false, false, false, false] rfl rfl (any_of HT_.out (by kernel_rfl)) (fun _ _ _ h => h) (Or.inl ⟨by rfl, ?_⟩) ?_ ?_
               rotate_left
               ·intro w'
                go_simp
                with_reducible rfl
               rotate_left
               ·simp only [Act.put, sA_, sB_, sC_, i64_w, i32_w]
                rfl
               refine pure_ (i := 13) (N := some 56) (v := ?_) (a' := ?_) #[true, true, true, false, true, true, true, false, true, true, true, false, true, true, false, false, false, false, false, false, false, false, false, false, false, false, false, false] rfl rfl (any_of HT_.out (by kernel_rfl)) (fun _ _ _ h => h) (Or.inl ⟨by rfl, ?_⟩) ?_ ?_
               rotate_left
               ·intro w'
                go_simp
                with_reducible rfl
               rotate_left
               ·simp only [Act.put, sA_, sB_, sC_, i64_w, i32_w]
                rfl
               refine pure_ (i := 14) (N := some 57) (v := ?_) (a' := ?_) #[true, true, true, false, true, true, true, false, true, true, true, false, true, true, true, false, false, false, false, false, false, false, false, false, false, false, false, false] rfl rfl (any_of HT_.out (by kernel_rfl)) (fun _ _ _ h => h) (Or.inl ⟨by rfl, ?_⟩) ?_ ?_
               rotate_left
               ·intro w'
                go_simp
                with_reducible rfl
               rotate_left
               ·simp only [Act.put, sA_, sB_, sC_, i64_w, i32_w]
                rfl
               refine pure_ (i := 16) (N := some 59) (v := ?_) (a' := ?_) #[true, true, true, false, true, true, true, false, true, true, true, false, true, true, true, false, true, false, false, false, false, false, false, false, false, false, false, false] rfl rfl (any_of HT_.out (by kernel_rfl)) (fun _ _ _ h => h) (Or.inl ⟨by rfl, ?_⟩) ?_ ?_
               rotate_left
               ·intro w'
                go_simp
                with_reducible rfl
               rotate_left
               ·simp only [Act.put, sA_, sB_, sC_, i64_w, i32_w]
                rfl
               refine pure_ (i := 17) (N := some 60) (v := ?_) (a' := ?_) #[true, true, true, false, true, true, true, false, true, true, true, false, true, true, true, false, true, true, false, false, false, false, false, false, false, false, false, false] rfl rfl (any_of HT_.out (by kernel_rfl)) (fun _ _ _ h => h) (Or.inl ⟨by rfl, ?_⟩) ?_ ?_
               rotate_left
               ·intro w'
                go_simp
                with_reducible rfl
               rotate_left
               ·simp only [Act.put, sA_, sB_, sC_, i64_w, i32_w]
                rfl
               refine pure_ (i := 18) (N := some 61) (v := ?_) (a' := ?_) #[true, true, true, false, true, true, true, false, true, true, true, false, true, true, true, false, true, true, true, false, false, false, false, false, false, false, false, false] rfl rfl (any_of HT_.out (by kernel_rfl)) (fun _ _ _ h => h) (Or.inl ⟨by rfl, ?_⟩) ?_ ?_
               rotate_left
               ·intro w'
                go_simp
                with_reducible rfl
               rotate_left
               ·simp only [Act.put, sA_, sB_, sC_, i64_w, i32_w]
                rfl
               refine pure_ (i := 20) (N := some 63) (v := ?_) (a' := ?_) #[true, true, true, false, true, true, true, false, true, true, true, false, true, true, true, false, true, true, true, false, true, false, false, false, false, false, false, false] rfl rfl (any_of HT_.out (by kernel_rfl)) (fun _ _ _ h => h) (Or.inl ⟨by rfl, ?_⟩) ?_ ?_
               rotate_left
               ·intro w'
                go_simp
                with_reducible rfl
               rotate_left
               ·simp only [Act.put, sA_, sB_, sC_, i64_w, i32_w]
                rfl
               refine pure_ (i := 21) (N := some 64) (v := ?_) (a' := ?_) #[true, true, true, false, true, true, true, false, true, true, true, false, true, true, true, false, true, true, true, false, true, true, false, false, false, false, false, false] rfl rfl (any_of HT_.out (by kernel_rfl)) (fun _ _ _ h => h) (Or.inl ⟨by rfl, ?_⟩) ?_ ?_
               rotate_left
               ·intro w'
                go_simp
                with_reducible rfl
               rotate_left
               ·simp only [Act.put, sA_, sB_, sC_, i64_w, i32_w]
                rfl
               refine pure_ (i := 22) (N := some 65) (v := ?_) (a' := ?_) #[true, true, true, false, true, true, true, false, true, true, true, false, true, true, true, false, true, true, true, false, true, true, true, false, false, false, false, false] rfl rfl (any_of HT_.out (by kernel_rfl)) (fun _ _ _ h => h) (Or.inl ⟨by rfl, ?_⟩) ?_ ?_
               rotate_left
               ·intro w'
                go_simp
                with_reducible rfl
               rotate_left
               ·simp only [Act.put, sA_, sB_, sC_, i64_w, i32_w]
                rfl
               refine take_ (i := 3) (N := some 46) (v := ?_) (a' := ?_) #[true, true, true, true, true, true, true, false, true, true, true, false, true, true, true, false, true, true, true, false, true, true, true, false, false, false, false, false] rfl rfl (take_ofW HT_.out HW_.out (by kernel_rfl)) (fun _ _ _ h => h) (Or.inl ⟨by rfl, ?_⟩) hHeld ?_ ?_
               rotate_left
               ·rintro w' ⟨s0, s1, s2, s3, s4, s5, s6, s7, s8, s9, s10, s11, s12, s13, s14, s15, s16, s17⟩
                go_simp
                with_reducible rfl
               rotate_left
               ·simp only [Act.put, sA_, sB_, sC_, i64_w, i32_w]
                rfl
               refine take_ (i := 7) (N := some 50) (v := ?_) (a' := ?_) #[true, true, true, true, true, true, true, true, true, true, true, false, true, true, true, false, true, true, true, false, true, true, true, false, false, false, false, false] rfl rfl (take_ofW HT_.out HW_.out (by kernel_rfl)) (fun _ _ _ h => h) (Or.inl ⟨by rfl, ?_⟩) hHeld ?_ ?_
               rotate_left
               ·rintro w' ⟨s0, s1, s2, s3, s4, s5, s6, s7, s8, s9, s10, s11, s12, s13, s14, s15, s16, s17⟩
                go_simp
                with_reducible rfl
               rotate_left
               ·simp only [Act.put, sA_, sB_, sC_, i64_w, i32_w]
                rfl
               refine take_ (i := 11) (N := some 54) (v := ?_) (a' := ?_) #[true, true, true, true, true, true, true, true, true, true, true, true, true, true, true, false, true, true, true, false, true, true, true, false, false, false, false, false] rfl rfl (take_ofW HT_.out HW_.out (by kernel_rfl)) (fun _ _ _ h => h) (Or.inl ⟨by rfl, ?_⟩) hHeld ?_ ?_
               rotate_left
               ·rintro w' ⟨s0, s1, s2, s3, s4, s5, s6, s7, s8, s9, s10, s11, s12, s13, s14, s15, s16, s17⟩
                go_simp
                with_reducible rfl
               rotate_left
               ·simp only [Act.put, sA_, sB_, sC_, i64_w, i32_w]
                rfl
               refine take_ (i := 15) (N := some 58) (v := ?_) (a' := ?_) #[true, true, true, true, true, true, true, true, true, true, true, true, true, true, true, true, true, true, true, false, true, true, true, false, false, false, false, false] rfl rfl (take_ofW HT_.out HW_.out (by kernel_rfl)) (fun _ _ _ h => h) (Or.inl ⟨by rfl, ?_⟩) hHeld ?_ ?_
               rotate_left
               ·rintro w' ⟨s0, s1, s2, s3, s4, s5, s6, s7, s8, s9, s10, s11, s12, s13, s14, s15, s16, s17⟩
                go_simp
                with_reducible rfl
               rotate_left
               ·simp only [Act.put, sA_, sB_, sC_, i64_w, i32_w]
                rfl
               refine take_ (i := 19) (N := some 62) (v := ?_) (a' := ?_) #[true, true, true, true, true, true, true, true, true, true, true, true, true, true, true, true, true, true, true, true, true, true, true, false, false, false, false, false] rfl rfl (take_ofW HT_.out HW_.out (by kernel_rfl)) (fun _ _ _ h => h) (Or.inl ⟨by rfl, ?_⟩) hHeld ?_ ?_
               rotate_left
               ·rintro w' ⟨s0, s1, s2, s3, s4, s5, s6, s7, s8, s9, s10, s11, s12, s13, s14, s15, s16, s17⟩
                go_simp
                with_reducible rfl
               rotate_left
               ·simp only [Act.put, sA_, sB_, sC_, i64_w, i32_w]
                rfl
               refine take_ (i := 23) (N := some 66) (v := ?_) (a' := ?_) #[true, true, true, true, true, true, true, true, true, true, true, true, true, true, true, true, true, true, true, true, true, true, true, true, false, false, false, false] rfl rfl (take_ofW HT_.out HW_.out (by kernel_rfl)) (fun _ _ _ h => h) (Or.inl ⟨by rfl, ?_⟩) hHeld ?_ ?_
               rotate_left
               ·rintro w' ⟨s0, s1, s2, s3, s4, s5, s6, s7, s8, s9, s10, s11, s12, s13, s14, s15, s16, s17⟩
                go_simp
                with_reducible rfl
               rotate_left
               ·simp only [Act.put, sA_, sB_, sC_, i64_w, i32_w]
                rfl
               refine pure_ (i := 24) (N := some 67) (v := ?_) (a' := ?_) #[true, true, true, true, true, true, true, true, true, true, true, true, true, true, true, true, true, true, true, true, true, true, true, true, true, false, false, false] rfl rfl (any_of HT_.out (by kernel_rfl)) (fun _ _ _ h => h) (Or.inl ⟨by rfl, ?_⟩) ?_ ?_
               rotate_left
               ·intro w'
                go_simp
                with_reducible rfl
               rotate_left
               ·simp only [Act.put, sA_, sB_, sC_, i64_w, i32_w]
                rfl
               refine pure_ (i := 25) (N := some 68) (v := ?_) (a' := ?_) #[true, true, true, true, true, true, true, true, true, true, true, true, true, true, true, true, true, true, true, true, true, true, true, true, true, true, false, false] rfl rfl (any_of HT_.out (by kernel_rfl)) (fun _ _ _ h => h) (Or.inl ⟨by rfl, ?_⟩) ?_ ?_
               rotate_left
               ·intro w'
                go_simp
                with_reducible rfl
               rotate_left
               ·simp only [Act.put, sA_, sB_, sC_, i64_w, i32_w]
                rfl
               refine one_ (i := 26) (N := some 8) #[true, true, true, true, true, true, true, true, true, true, true, true, true, true, true, true, true, true, true, true, true, true, true, true, true, true, true, false] rfl rfl (one_of HT_.out (by kernel_rfl)) (by decide) (fun K hK => ?_)
               refine box_step ?hg (N := 8) ?hd (cs := #[.int .i64 0, .int .i64 0, .int .i64 0, .string (⟨#[]⟩ : ByteArray), .int .i64 0, .bool false]) (t := 28) ?hr ?_; (case hd => rfl); (case hg => rfl); (case hr => first | (go_simp; done) | (go_simp; rfl))
               intro gb325 hg w33 hbox hb
               have HS0_ := (hb.cell (World.block_lt_of_cell? _ _ (hHeld.1))).trans (hHeld.1)
               have HS1_ := (hb.cell (World.block_lt_of_cell? _ _ (hHeld.2.1))).trans (hHeld.2.1)
               have HS2_ := (hb.cell (World.block_lt_of_cell? _ _ (hHeld.2.2.1))).trans (hHeld.2.2.1)
               have HS3_ := (hb.cell (World.block_lt_of_cell? _ _ (hHeld.2.2.2.1))).trans (hHeld.2.2.2.1)
               have HS4_ := (hb.cell (World.block_lt_of_cell? _ _ (hHeld.2.2.2.2.1))).trans (hHeld.2.2.2.2.1)
               have HS5_ := (hb.cell (World.block_lt_of_cell? _ _ (hHeld.2.2.2.2.2.1))).trans (hHeld.2.2.2.2.2.1)
               have HS6_ := (hb.cell (World.block_lt_of_cell? _ _ (hHeld.2.2.2.2.2.2.1))).trans (hHeld.2.2.2.2.2.2.1)
               have HS7_ := (hb.cell (World.block_lt_of_cell? _ _ (hHeld.2.2.2.2.2.2.2.1))).trans (hHeld.2.2.2.2.2.2.2.1)
               have HS8_ := (hb.cell (World.block_lt_of_cell? _ _ (hHeld.2.2.2.2.2.2.2.2.1))).trans (hHeld.2.2.2.2.2.2.2.2.1)
               have HS9_ := (hb.cell (World.block_lt_of_cell? _ _ (hHeld.2.2.2.2.2.2.2.2.2.1))).trans (hHeld.2.2.2.2.2.2.2.2.2.1)
               have HS10_ := (hb.cell (World.block_lt_of_cell? _ _ (hHeld.2.2.2.2.2.2.2.2.2.2.1))).trans (hHeld.2.2.2.2.2.2.2.2.2.2.1)
               have HS11_ := (hb.cell (World.block_lt_of_cell? _ _ (hHeld.2.2.2.2.2.2.2.2.2.2.2.1))).trans (hHeld.2.2.2.2.2.2.2.2.2.2.2.1)
               have HS12_ := (hb.cell (World.block_lt_of_cell? _ _ (hHeld.2.2.2.2.2.2.2.2.2.2.2.2.1))).trans (hHeld.2.2.2.2.2.2.2.2.2.2.2.2.1)
               have HS13_ := (hb.cell (World.block_lt_of_cell? _ _ (hHeld.2.2.2.2.2.2.2.2.2.2.2.2.2.1))).trans (hHeld.2.2.2.2.2.2.2.2.2.2.2.2.2.1)
               have HS14_ := (hb.cell (World.block_lt_of_cell? _ _ (hHeld.2.2.2.2.2.2.2.2.2.2.2.2.2.2.1))).trans (hHeld.2.2.2.2.2.2.2.2.2.2.2.2.2.2.1)
               have HS15_ := (hb.cell (World.block_lt_of_cell? _ _ (hHeld.2.2.2.2.2.2.2.2.2.2.2.2.2.2.2.1))).trans (hHeld.2.2.2.2.2.2.2.2.2.2.2.2.2.2.2.1)
               have HS16_ := (hb.cell (World.block_lt_of_cell? _ _ (hHeld.2.2.2.2.2.2.2.2.2.2.2.2.2.2.2.2.1))).trans (hHeld.2.2.2.2.2.2.2.2.2.2.2.2.2.2.2.2.1)
               have HS17_ := (hb.cell (World.block_lt_of_cell? _ _ (hHeld.2.2.2.2.2.2.2.2.2.2.2.2.2.2.2.2.2))).trans (hHeld.2.2.2.2.2.2.2.2.2.2.2.2.2.2.2.2.2)
               have n0_ := Aside0.mk (Kd.R_below kz6_11 hb)
               have n1_ := Aside0.mk (blk_below (g := gb308) (o := .cells #[.int .i64 0, .int .i64 0, .int .i64 0, .string (⟨#[]⟩ : ByteArray), .int .i64 0, .bool false] 28 (0, 0)) kz6_5 hb)
               have n2_ := Aside0.mk (below_step kz6_3 hb)
               have n3_ := Aside0.mk (hbox)
               have n4_ := Aside0.mk ((by rw [hg]; exact (below_size kz6_3) : w.heap.size ≤ gb325))
               have n5_ := Aside0.mk ((by rw [hg]; exact (below_size kz6_3) : w.heap.size ≤ gb325))
               have n6_ := Aside0.mk ((by rw [hg]; exact Nat.ne_of_lt (blk_lt (g := gb308) (o := .cells #[.int .i64 0, .int .i64 0, .int .i64 0, .string (⟨#[]⟩ : ByteArray), .int .i64 0, .bool false] 28 (0, 0)) kz6_5) : gb308 ≠ gb325))
               have n7_ := Aside0.mk ((by rw [hg]; exact Nat.ne_of_gt (blk_lt (g := gb308) (o := .cells #[.int .i64 0, .int .i64 0, .int .i64 0, .string (⟨#[]⟩ : ByteArray), .int .i64 0, .bool false] 28 (0, 0)) kz6_5) : gb325 ≠ gb308))
               clear HO_7
               clear BK308
               clear HB
               have HO_7 := n0_
               have BK308 := n1_
               have HB := n2_
               have BK325 := n3_
               have GW325 := n4_
               have GE325 := n5_
               have NB308_325 := n6_
               have NB325_308 := n7_
               clear n0_ n1_ n2_ n3_ n4_ n5_ n6_ n7_
               clear hb hbox hg
               refine hK.out _ _ ⟨HS0_, HS1_, HS2_, HS3_, HS4_, HS5_, HS6_, HS7_, HS8_, HS9_, HS10_, HS11_, HS12_, HS13_, HS14_, HS15_, HS16_, HS17_⟩ (fun hHeld => ?_)
               clear hK K
               refine norm_ (a' := ?_) ?_ ?_
               rotate_left
               ·show Act.put _ (some 8) _ = _
                simp only [Act.put, sA_, sB_, sC_, i64_w, i32_w]
                rfl
               refine one_ (i := 27) (N := none) #[true, true, true, true, true, true, true, true, true, true, true, true, true, true, true, true, true, true, true, true, true, true, true, true, true, true, true, true] rfl rfl (one_of HT_.out (by kernel_rfl)) (by decide) (fun K hK => ?_)
               have hs34 : w33.cell? ⟨gb325, 0, none⟩ = some (.int .i64 0) := (blk_cell BK325.out 0).trans rfl
               have hfs34 := blk_frozen BK325.out 0
               have hns34_0 := NB308_325.out
               have hms34_0 := NB325_308.out
               have hs35 : w33.cell? ⟨gb325, 1, none⟩ = some (.int .i64 0) := (blk_cell BK325.out 1).trans rfl
               have hfs35 := blk_frozen BK325.out 1
               have hns35_0 := NB308_325.out
               have hms35_0 := NB325_308.out
               have hs36 : w33.cell? ⟨gb325, 2, none⟩ = some (.int .i64 0) := (blk_cell BK325.out 2).trans rfl
               have hfs36 := blk_frozen BK325.out 2
               have hns36_0 := NB308_325.out
               have hms36_0 := NB325_308.out
               have hs37 : w33.cell? ⟨gb325, 3, none⟩ = some (.string (⟨#[]⟩ : ByteArray)) := (blk_cell BK325.out 3).trans rfl
               have hfs37 := blk_frozen BK325.out 3
               have hns37_0 := NB308_325.out
               have hms37_0 := NB325_308.out
               have hs38 : w33.cell? ⟨gb325, 4, none⟩ = some (.int .i64 0) := (blk_cell BK325.out 4).trans rfl
               have hfs38 := blk_frozen BK325.out 4
               have hns38_0 := NB308_325.out
               have hms38_0 := NB325_308.out
               have hs39 : w33.cell? ⟨gb325, 5, none⟩ = some (.bool false) := (blk_cell BK325.out 5).trans rfl
               have hfs39 := blk_frozen BK325.out 5
               have hns39_0 := NB308_325.out
               have hms39_0 := NB325_308.out
               refine skip_ (w1 := ?_) (by rfl) rfl ?_ ?_
               rotate_left
               ·go_simp
                rfl
               have hown_ : ad319.block ≠ gb325 := kz6_9
               refine hK.out _ _ ?hS_ (fun hHeld => ?_)
               case hS_ => exact ⟨cell_far6 hown_ hHeld.1, cell_far6 hown_ hHeld.2.1, cell_far6 hown_ hHeld.2.2.1, cell_far6 hown_ hHeld.2.2.2.1, cell_far6 hown_ hHeld.2.2.2.2.1, cell_far6 hown_ hHeld.2.2.2.2.2.1, cell_far6 hown_ hHeld.2.2.2.2.2.2.1, cell_far6 hown_ hHeld.2.2.2.2.2.2.2.1, cell_far6 hown_ hHeld.2.2.2.2.2.2.2.2.1, cell_far6 hown_ hHeld.2.2.2.2.2.2.2.2.2.1, cell_far6 hown_ hHeld.2.2.2.2.2.2.2.2.2.2.1, cell_far6 hown_ hHeld.2.2.2.2.2.2.2.2.2.2.2.1, cell_far6 hown_ hHeld.2.2.2.2.2.2.2.2.2.2.2.2.1, cell_far6 hown_ hHeld.2.2.2.2.2.2.2.2.2.2.2.2.2.1, cell_far6 hown_ hHeld.2.2.2.2.2.2.2.2.2.2.2.2.2.2.1, cell_far6 hown_ hHeld.2.2.2.2.2.2.2.2.2.2.2.2.2.2.2.1, cell_far6 hown_ hHeld.2.2.2.2.2.2.2.2.2.2.2.2.2.2.2.2.1, cell_far6 hown_ hHeld.2.2.2.2.2.2.2.2.2.2.2.2.2.2.2.2.2⟩
               clear hown_
               clear hK K
               refine done_ (done_of HT_.out (by kernel_rfl)) ?_
               have hnb40 := NB325_308.out
               have hnc40 := NB308_325.out
               have hcz41_0 : w33.cell? ⟨gb325, 0, none⟩ = some (.int .i64 0) := (blk_cell BK325.out 0).trans rfl
               have hcz41_1 : w33.cell? ⟨gb325, 1, none⟩ = some (.int .i64 0) := (blk_cell BK325.out 1).trans rfl
               have hcz41_2 : w33.cell? ⟨gb325, 2, none⟩ = some (.int .i64 0) := (blk_cell BK325.out 2).trans rfl
               have hcz41_3 : w33.cell? ⟨gb325, 3, none⟩ = some (.string (⟨#[]⟩ : ByteArray)) := (blk_cell BK325.out 3).trans rfl
               have hcz41_4 : w33.cell? ⟨gb325, 4, none⟩ = some (.int .i64 0) := (blk_cell BK325.out 4).trans rfl
               have hcz41_5 : w33.cell? ⟨gb325, 5, none⟩ = some (.bool false) := (blk_cell BK325.out 5).trans rfl
               have hfz41_0 := blk_frozen BK325.out 0
               have hfz41_1 := blk_frozen BK325.out 1
               have hfz41_2 := blk_frozen BK325.out 2
               have hfz41_3 := blk_frozen BK325.out 3
               have hfz41_4 := blk_frozen BK325.out 4
               have hfz41_5 := blk_frozen BK325.out 5
               try go_wp2_with (first | ((with_reducible refine gate_callee (f := 34) rfl ?_); refine goesL_ (some 71) rfl rfl Try.func34 (by kernel_rfl) rfl #[.agg #[.int .i64 ((rd_T112 t314 0).f1), .int .i64 ((rd_T112 t314 1).f1), .int .i64 ((rd_T112 t314 2).f1), .string ((rd_T112 t314 3).f2), .int .i64 ((rd_T112 t314 4).f1), .bool (((rd_T112 t314 5).f1) == 1)]] rfl kz6_10 ?_; (with_reducible refine (outbox_Encode.calls kj9 ((rd_T112 t314 0).f1) ((rd_T112 t314 1).f1) ((rd_T112 t314 2).f1) ((rd_T112 t314 3).f2) ((rd_T112 t314 4).f1) (((rd_T112 t314 5).f1) == 1) t326 t329 _ A27.out).mono ?_); rintro e w42 ⟨v327, rfl, ho0, hb⟩; refine ⟨_, rfl, ?_⟩; have n0_ := Aside0.mk (Kd.R_below kz6_6 hb); have n1_ := Aside0.mk (Kd.R_lower ho0 (below_size kz6_7)); have n2_ := Aside0.mk (blk_below (g := gb308) (o := .cells #[.int .i64 0, .int .i64 0, .int .i64 0, .string (⟨#[]⟩ : ByteArray), .int .i64 0, .bool false] 28 (0, 0)) kz6_4 hb); have n3_ := Aside0.mk (blk_below (g := gb325) (o := .cells #[.int .i64 ((rd_T112 t314 0).f1), .int .i64 ((rd_T112 t314 1).f1), .int .i64 ((rd_T112 t314 2).f1), .string ((rd_T112 t314 3).f2), .int .i64 ((rd_T112 t314 4).f1), .bool (((rd_T112 t314 5).f1) == 1)] 28 (0, 0)) kz6_2 hb); have n4_ := Aside0.mk (below_step kz6_7 hb); clear HO_7; clear BK308; clear BK325; clear HB; have HO_7 := n0_; have HO328 := n1_; have BK308 := n2_; have BK325 := n3_; have HB := n4_; clear n0_ n1_ n2_ n3_ n4_; (try clear hb); (try clear hb2); (try clear hk); (try clear hi); (try clear ho0); obtain ⟨Ao43, co43, eo43⟩ := Kd.R_slice HO328.out; subst eo43) | (go_at_call 63; (with_reducible refine (slices_Equal_byte_byte.calls kj9 _ _ t326 _ _ l0 true _ ?side1 ?side2 ?side3 ?side4 A29.out).mono ?_); (case side1 => repeat (first | exact (Kd.R_reads' HO328.out).2.2 | (with_reducible refine Kd.C_alloc ?_ _) | (with_reducible refine Kd.C_drewN ?_ _) | (with_reducible refine Kd.C_drew ?_))); (case side2 => exact (Kd.R_reads' HO328.out).2.1); (case side3 => repeat (first | exact (Kd.C_below HR0.out HB.out) | (with_reducible refine Kd.C_alloc ?_ _) | (with_reducible refine Kd.C_drewN ?_ _) | (with_reducible refine Kd.C_drew ?_))); (case side4 => exact HC0.out); rintro e w' ⟨rfl, ⟨nd, rfl⟩⟩; (try (rw [drewN_self w42]; generalize hq_ : World.drewN w42 _ = w42; have n0_ : Aside0 (Kd.R (Kd.int .u8) 5 w42 w.heap.size (fun _ => True) (.slice Ao43 t326.length co43) t326) := ⟨by rw [← hq_]; exact (by (with_reducible repeat (first | apply Kd.R_alloc | apply Kd.R_drewN | apply Kd.R_drew)); exact HO328.out)⟩; have n1_ : Aside0 (Kd.R k112 112 w42 w.heap.size (fun _ => True) (.slice (some ad319) t314.length co32) t314) := ⟨by rw [← hq_]; exact kz6_11⟩; have n2_ : Aside0 (w42.heap[gb308]? = some (.cells #[.int .i64 0, .int .i64 0, .int .i64 0, .string (⟨#[]⟩ : ByteArray), .int .i64 0, .bool false] 28 (0, 0))) := ⟨by rw [← hq_]; exact kz6_5⟩; have n3_ : Aside0 (w42.heap[gb325]? = some (.cells #[.int .i64 ((rd_T112 t314 0).f1), .int .i64 ((rd_T112 t314 1).f1), .int .i64 ((rd_T112 t314 2).f1), .string ((rd_T112 t314 3).f2), .int .i64 ((rd_T112 t314 4).f1), .bool (((rd_T112 t314 5).f1) == 1)] 28 (0, 0))) := ⟨by rw [← hq_]; exact (by (with_reducible repeat (first | refine blk_drewN ?_ _ | refine blk_drew ?_ | refine blk_alloc ?_ _)); exact BK325.out)⟩; have n4_ : Aside0 (Below w.heap.size w w42) := ⟨by rw [← hq_]; exact kz6_7⟩; clear HO328 HO_7 BK308 BK325 HB hq_; have HO328 := n0_; have HO_7 := n1_; have BK308 := n2_; have BK325 := n3_; have HB := n4_; clear n0_ n1_ n2_ n3_ n4_)); have hcz44_0 : w42.cell? ⟨gb325, 0, none⟩ = some (.int .i64 ((rd_T112 t314 0).f1)) := (blk_cell BK325.out 0).trans rfl; have hcz44_1 : w42.cell? ⟨gb325, 1, none⟩ = some (.int .i64 ((rd_T112 t314 1).f1)) := (blk_cell BK325.out 1).trans rfl; have hcz44_2 : w42.cell? ⟨gb325, 2, none⟩ = some (.int .i64 ((rd_T112 t314 2).f1)) := (blk_cell BK325.out 2).trans rfl; have hcz44_3 : w42.cell? ⟨gb325, 3, none⟩ = some (.string ((rd_T112 t314 3).f2)) := (blk_cell BK325.out 3).trans rfl; have hcz44_4 : w42.cell? ⟨gb325, 4, none⟩ = some (.int .i64 ((rd_T112 t314 4).f1)) := (blk_cell BK325.out 4).trans rfl; have hcz44_5 : w42.cell? ⟨gb325, 5, none⟩ = some (.bool (((rd_T112 t314 5).f1) == 1)) := (blk_cell BK325.out 5).trans rfl; have hfz44_0 := blk_frozen BK325.out 0; have hfz44_1 := blk_frozen BK325.out 1; have hfz44_2 := blk_frozen BK325.out 2; have hfz44_3 := blk_frozen BK325.out 3; have hfz44_4 := blk_frozen BK325.out 4; have hfz44_5 := blk_frozen BK325.out 5; have hcz45_0 : w42.cell? ⟨gb308, 0, none⟩ = some (.int .i64 0) := (blk_cell BK308.out 0).trans rfl; have hcz45_1 : w42.cell? ⟨gb308, 1, none⟩ = some (.int .i64 0) := (blk_cell BK308.out 1).trans rfl; have hcz45_2 : w42.cell? ⟨gb308, 2, none⟩ = some (.int .i64 0) := (blk_cell BK308.out 2).trans rfl; have hcz45_3 : w42.cell? ⟨gb308, 3, none⟩ = some (.string (⟨#[]⟩ : ByteArray)) := (blk_cell BK308.out 3).trans rfl; have hcz45_4 : w42.cell? ⟨gb308, 4, none⟩ = some (.int .i64 0) := (blk_cell BK308.out 4).trans rfl; have hcz45_5 : w42.cell? ⟨gb308, 5, none⟩ = some (.bool false) := (blk_cell BK308.out 5).trans rfl; have hfz45_0 := blk_frozen BK308.out 0; have hfz45_1 := blk_frozen BK308.out 1; have hfz45_2 := blk_frozen BK308.out 2; have hfz45_3 := blk_frozen BK308.out 3; have hfz45_4 := blk_frozen BK308.out 4; have hfz45_5 := blk_frozen BK308.out 5))
               refine bodyPost_ret (results_ct rfl _ _ gb308 28 #[.int .i64 ((rd_T112 t314 0).f1), .int .i64 ((rd_T112 t314 1).f1), .int .i64 ((rd_T112 t314 2).f1), .string ((rd_T112 t314 3).f2), .int .i64 ((rd_T112 t314 4).f1), .bool (((rd_T112 t314 5).f1) == 1)] (0, 0) _ rfl (by (with_reducible repeat (first | refine blk_drewN ?_ _ | refine blk_drew ?_ | refine blk_alloc ?_ _)); refine blk_put (cs := #[.int .i64 ((rd_T112 t314 0).f1), .int .i64 ((rd_T112 t314 1).f1), .int .i64 ((rd_T112 t314 2).f1), .string ((rd_T112 t314 3).f2), .int .i64 ((rd_T112 t314 4).f1), .bool false]) ?_ 5 _ rfl; (with_reducible repeat (first | refine blk_drewN ?_ _ | refine blk_drew ?_ | refine blk_alloc ?_ _)); refine blk_put (cs := #[.int .i64 ((rd_T112 t314 0).f1), .int .i64 ((rd_T112 t314 1).f1), .int .i64 ((rd_T112 t314 2).f1), .string ((rd_T112 t314 3).f2), .int .i64 0, .bool false]) ?_ 4 _ rfl; (with_reducible repeat (first | refine blk_drewN ?_ _ | refine blk_drew ?_ | refine blk_alloc ?_ _)); refine blk_put (cs := #[.int .i64 ((rd_T112 t314 0).f1), .int .i64 ((rd_T112 t314 1).f1), .int .i64 ((rd_T112 t314 2).f1), .string (⟨#[]⟩ : ByteArray), .int .i64 0, .bool false]) ?_ 3 _ rfl; (with_reducible repeat (first | refine blk_drewN ?_ _ | refine blk_drew ?_ | refine blk_alloc ?_ _)); refine blk_put (cs := #[.int .i64 ((rd_T112 t314 0).f1), .int .i64 ((rd_T112 t314 1).f1), .int .i64 0, .string (⟨#[]⟩ : ByteArray), .int .i64 0, .bool false]) ?_ 2 _ rfl; (with_reducible repeat (first | refine blk_drewN ?_ _ | refine blk_drew ?_ | refine blk_alloc ?_ _)); refine blk_put (cs := #[.int .i64 ((rd_T112 t314 0).f1), .int .i64 0, .int .i64 0, .string (⟨#[]⟩ : ByteArray), .int .i64 0, .bool false]) ?_ 1 _ rfl; (with_reducible repeat (first | refine blk_drewN ?_ _ | refine blk_drew ?_ | refine blk_alloc ?_ _)); refine blk_put (cs := #[.int .i64 0, .int .i64 0, .int .i64 0, .string (⟨#[]⟩ : ByteArray), .int .i64 0, .bool false]) ?_ 0 _ rfl; (with_reducible repeat (first | refine blk_drewN ?_ _ | refine blk_drew ?_ | refine blk_alloc ?_ _)); exact BK308.out) Try.underlying28 rfl (by kernel_rfl)) rfl ?_
               exact ⟨by first | rfl | (simp [errW_none, errW_some] <;> rfl) | (simp [*, errW_none, errW_some] <;> rfl), by repeat (first | (with_reducible first | exact HB.out | apply below_alloc | apply pw_below_drewN | apply below_drew1 | refine below_set ?_ GE308.out | refine below_set ?_ GE325.out) | exact HB.out)⟩
              ·replace c30 := Bool.eq_false_iff.mpr c30
               subst c30
               have H1 : (some (0, 0, 0, (⟨#[]⟩ : ByteArray), 0, false, 2)) = some (r1, r2, r3, r4, r5, r6, r7) := by rw [if_neg (show ¬ (false = true) by decide)] at H; exact H
               clear H
               have H := H1
               clear H1
               simp only [Option.some.injEq, Prod.mk.injEq] at H
               obtain ⟨rfl, rfl, rfl, rfl, rfl, rfl, rfl⟩ := H
               try go_wp2
               have n0_ := Aside0.mk (Kd.R_drew HO_7.out)
               have n1_ := Aside0.mk (blk_drew BK308.out)
               have n2_ := Aside0.mk (below_drew1 HB.out)
               clear HO_7
               clear BK308
               clear HB
               have HO_7 := n0_
               have BK308 := n1_
               have HB := n2_
               clear n0_ n1_ n2_
               obtain ⟨Ao47, co47, eo47⟩ := Kd.R_slice HO_7.out
               (first | subst eo47 | (injection eo47 with f1_ f2_ f3_; have f4_ := f1_.symm; have f5_ := f3_.symm; clear f1_ f2_ f3_; subst f4_; subst f5_))
               have p319 : 0 ≤ (0 : Int) := (by omega)
               have q319 : 0 < (t314.length : Int) := of_decide_eq_true kz6_8
               obtain ⟨ad319, e319, hx319_0, hx319_1, hx319_2⟩ := at_T112 (Kd.R_reads' HO_7.out).2.2 0 p319 q319
               cases e319
               have qi319 : (0 < t314.length) = True := eq_true (by omega)
               (try rw [show ((0 : Int)).toNat = 0 from rfl] at hx319_0)
               (try rw [show 0 * 3 = 0 from rfl] at hx319_0)
               (try rw [Addr.add_zero'] at hx319_0)
               (try rw [show ((0 : Int)).toNat = 0 from rfl] at hx319_1)
               (try rw [show 0 * 3 = 0 from rfl] at hx319_1)
               (try rw [Addr.add_zero'] at hx319_1)
               (try rw [show ((0 : Int)).toNat = 0 from rfl] at hx319_2)
               (try rw [show 0 * 3 = 0 from rfl] at hx319_2)
               (try rw [Addr.add_zero'] at hx319_2)
               replace p319 := eq_true p319
               replace q319 := eq_true q319
               have p320 : 0 ≤ (1 : Int) := (by omega)
               have q320 : 1 < (t314.length : Int) := of_decide_eq_true kz6_8
               obtain ⟨ad320, e320, hx320_0, hx320_1, hx320_2⟩ := at_T112 (Kd.R_reads' HO_7.out).2.2 1 p320 q320
               obtain rfl : ad319 = ad320 := (by injection e320)
               (try simp only [show (1 : Int).toNat = 1 from rfl, Nat.reduceMul, Nat.reduceEqDiff, Go.Addr.add, ↓reduceIte] at hx320_0)
               (try simp only [show (1 : Int).toNat = 1 from rfl, Nat.reduceMul, Nat.reduceEqDiff, Go.Addr.add, ↓reduceIte] at hx320_1)
               (try simp only [show (1 : Int).toNat = 1 from rfl, Nat.reduceMul, Nat.reduceEqDiff, Go.Addr.add, ↓reduceIte] at hx320_2)
               have qi320 : (1 < t314.length) = True := eq_true (by omega)
               (try rw [show ((1 : Int)).toNat = 1 from rfl] at hx320_0)
               (try rw [show 1 * 3 = 3 from rfl] at hx320_0)
               (try rw [show ((1 : Int)).toNat = 1 from rfl] at hx320_1)
               (try rw [show 1 * 3 = 3 from rfl] at hx320_1)
               (try rw [show ((1 : Int)).toNat = 1 from rfl] at hx320_2)
               (try rw [show 1 * 3 = 3 from rfl] at hx320_2)
               replace p320 := eq_true p320
               replace q320 := eq_true q320
               have p321 : 0 ≤ (2 : Int) := (by omega)
               have q321 : 2 < (t314.length : Int) := of_decide_eq_true kz6_8
               obtain ⟨ad321, e321, hx321_0, hx321_1, hx321_2⟩ := at_T112 (Kd.R_reads' HO_7.out).2.2 2 p321 q321
               obtain rfl : ad319 = ad321 := (by injection e321)
               (try simp only [show (2 : Int).toNat = 2 from rfl, Nat.reduceMul, Nat.reduceEqDiff, Go.Addr.add, ↓reduceIte] at hx321_0)
               (try simp only [show (2 : Int).toNat = 2 from rfl, Nat.reduceMul, Nat.reduceEqDiff, Go.Addr.add, ↓reduceIte] at hx321_1)
               (try simp only [show (2 : Int).toNat = 2 from rfl, Nat.reduceMul, Nat.reduceEqDiff, Go.Addr.add, ↓reduceIte] at hx321_2)
               have qi321 : (2 < t314.length) = True := eq_true (by omega)
               (try rw [show ((2 : Int)).toNat = 2 from rfl] at hx321_0)
               (try rw [show 2 * 3 = 6 from rfl] at hx321_0)
               (try rw [show ((2 : Int)).toNat = 2 from rfl] at hx321_1)
               (try rw [show 2 * 3 = 6 from rfl] at hx321_1)
               (try rw [show ((2 : Int)).toNat = 2 from rfl] at hx321_2)
               (try rw [show 2 * 3 = 6 from rfl] at hx321_2)
               replace p321 := eq_true p321
               replace q321 := eq_true q321
               have p322 : 0 ≤ (3 : Int) := (by omega)
               have q322 : 3 < (t314.length : Int) := of_decide_eq_true kz6_8
               obtain ⟨ad322, e322, hx322_0, hx322_1, hx322_2⟩ := at_T112 (Kd.R_reads' HO_7.out).2.2 3 p322 q322
               obtain rfl : ad319 = ad322 := (by injection e322)
               (try simp only [show (3 : Int).toNat = 3 from rfl, Nat.reduceMul, Nat.reduceEqDiff, Go.Addr.add, ↓reduceIte] at hx322_0)
               (try simp only [show (3 : Int).toNat = 3 from rfl, Nat.reduceMul, Nat.reduceEqDiff, Go.Addr.add, ↓reduceIte] at hx322_1)
               (try simp only [show (3 : Int).toNat = 3 from rfl, Nat.reduceMul, Nat.reduceEqDiff, Go.Addr.add, ↓reduceIte] at hx322_2)
               have qi322 : (3 < t314.length) = True := eq_true (by omega)
               (try rw [show ((3 : Int)).toNat = 3 from rfl] at hx322_0)
               (try rw [show 3 * 3 = 9 from rfl] at hx322_0)
               (try rw [show ((3 : Int)).toNat = 3 from rfl] at hx322_1)
               (try rw [show 3 * 3 = 9 from rfl] at hx322_1)
               (try rw [show ((3 : Int)).toNat = 3 from rfl] at hx322_2)
               (try rw [show 3 * 3 = 9 from rfl] at hx322_2)
               replace p322 := eq_true p322
               replace q322 := eq_true q322
               have p323 : 0 ≤ (4 : Int) := (by omega)
               have q323 : 4 < (t314.length : Int) := of_decide_eq_true kz6_8
               obtain ⟨ad323, e323, hx323_0, hx323_1, hx323_2⟩ := at_T112 (Kd.R_reads' HO_7.out).2.2 4 p323 q323
               obtain rfl : ad319 = ad323 := (by injection e323)
               (try simp only [show (4 : Int).toNat = 4 from rfl, Nat.reduceMul, Nat.reduceEqDiff, Go.Addr.add, ↓reduceIte] at hx323_0)
               (try simp only [show (4 : Int).toNat = 4 from rfl, Nat.reduceMul, Nat.reduceEqDiff, Go.Addr.add, ↓reduceIte] at hx323_1)
               (try simp only [show (4 : Int).toNat = 4 from rfl, Nat.reduceMul, Nat.reduceEqDiff, Go.Addr.add, ↓reduceIte] at hx323_2)
               have qi323 : (4 < t314.length) = True := eq_true (by omega)
               (try rw [show ((4 : Int)).toNat = 4 from rfl] at hx323_0)
               (try rw [show 4 * 3 = 12 from rfl] at hx323_0)
               (try rw [show ((4 : Int)).toNat = 4 from rfl] at hx323_1)
               (try rw [show 4 * 3 = 12 from rfl] at hx323_1)
               (try rw [show ((4 : Int)).toNat = 4 from rfl] at hx323_2)
               (try rw [show 4 * 3 = 12 from rfl] at hx323_2)
               replace p323 := eq_true p323
               replace q323 := eq_true q323
               have p324 : 0 ≤ (5 : Int) := (by omega)
               have q324 : 5 < (t314.length : Int) := of_decide_eq_true kz6_8
               obtain ⟨ad324, e324, hx324_0, hx324_1, hx324_2⟩ := at_T112 (Kd.R_reads' HO_7.out).2.2 5 p324 q324
               obtain rfl : ad319 = ad324 := (by injection e324)
               (try simp only [show (5 : Int).toNat = 5 from rfl, Nat.reduceMul, Nat.reduceEqDiff, Go.Addr.add, ↓reduceIte] at hx324_0)
               (try simp only [show (5 : Int).toNat = 5 from rfl, Nat.reduceMul, Nat.reduceEqDiff, Go.Addr.add, ↓reduceIte] at hx324_1)
               (try simp only [show (5 : Int).toNat = 5 from rfl, Nat.reduceMul, Nat.reduceEqDiff, Go.Addr.add, ↓reduceIte] at hx324_2)
               have qi324 : (5 < t314.length) = True := eq_true (by omega)
               (try rw [show ((5 : Int)).toNat = 5 from rfl] at hx324_0)
               (try rw [show 5 * 3 = 15 from rfl] at hx324_0)
               (try rw [show ((5 : Int)).toNat = 5 from rfl] at hx324_1)
               (try rw [show 5 * 3 = 15 from rfl] at hx324_1)
               (try rw [show ((5 : Int)).toNat = 5 from rfl] at hx324_2)
               (try rw [show 5 * 3 = 15 from rfl] at hx324_2)
               replace p324 := eq_true p324
               replace q324 := eq_true q324
               refine start_ (n := 28) (S := fun w' => w'.cell? ad319 = some (.bool ((rd_T112 t314 0).f0)) ∧ w'.cell? ⟨ad319.block, ad319.off + 1, none⟩ = some (.int .i64 ((rd_T112 t314 0).f1)) ∧ w'.cell? ⟨ad319.block, ad319.off + 2, none⟩ = some (.string ((rd_T112 t314 0).f2)) ∧ w'.cell? ⟨ad319.block, ad319.off + 3, none⟩ = some (.bool ((rd_T112 t314 1).f0)) ∧ w'.cell? ⟨ad319.block, ad319.off + 3 + 1, none⟩ = some (.int .i64 ((rd_T112 t314 1).f1)) ∧ w'.cell? ⟨ad319.block, ad319.off + 3 + 2, none⟩ = some (.string ((rd_T112 t314 1).f2)) ∧ w'.cell? ⟨ad319.block, ad319.off + 6, none⟩ = some (.bool ((rd_T112 t314 2).f0)) ∧ w'.cell? ⟨ad319.block, ad319.off + 6 + 1, none⟩ = some (.int .i64 ((rd_T112 t314 2).f1)) ∧ w'.cell? ⟨ad319.block, ad319.off + 6 + 2, none⟩ = some (.string ((rd_T112 t314 2).f2)) ∧ w'.cell? ⟨ad319.block, ad319.off + 9, none⟩ = some (.bool ((rd_T112 t314 3).f0)) ∧ w'.cell? ⟨ad319.block, ad319.off + 9 + 1, none⟩ = some (.int .i64 ((rd_T112 t314 3).f1)) ∧ w'.cell? ⟨ad319.block, ad319.off + 9 + 2, none⟩ = some (.string ((rd_T112 t314 3).f2)) ∧ w'.cell? ⟨ad319.block, ad319.off + 12, none⟩ = some (.bool ((rd_T112 t314 4).f0)) ∧ w'.cell? ⟨ad319.block, ad319.off + 12 + 1, none⟩ = some (.int .i64 ((rd_T112 t314 4).f1)) ∧ w'.cell? ⟨ad319.block, ad319.off + 12 + 2, none⟩ = some (.string ((rd_T112 t314 4).f2)) ∧ w'.cell? ⟨ad319.block, ad319.off + 15, none⟩ = some (.bool ((rd_T112 t314 5).f0)) ∧ w'.cell? ⟨ad319.block, ad319.off + 15 + 1, none⟩ = some (.int .i64 ((rd_T112 t314 5).f1)) ∧ w'.cell? ⟨ad319.block, ad319.off + 15 + 2, none⟩ = some (.string ((rd_T112 t314 5).f2))) (ds := []) #[false, false, false, false, false, false, false, false, false, false, false, false, false, false, false, false, false, false, false, false, false, false, false, false, false, false, false, false] (by kernel_rfl) rfl rfl ⟨hx319_0, hx319_1, hx319_2, hx320_0, hx320_1, hx320_2, hx321_0, hx321_1, hx321_2, hx322_0, hx322_1, hx322_2, hx323_0, hx323_1, hx323_2, hx324_0, hx324_1, hx324_2⟩ (fun hHeld => ?_); refine with_tabW outbox_Decode.tab7 outbox_Decode.bits7 (fun HT_ HW_ => ?_)
               generalize wc.drew = w46 at HO_7 BK308 HB hx319_0 hx319_1 hx319_2 hx320_0 hx320_1 hx320_2 hx321_0 hx321_1 hx321_2 hx322_0 hx322_1 hx322_2 hx323_0 hx323_1 hx323_2 hx324_0 hx324_1 hx324_2 hHeld ⊢
               refine pure_ (i := 0) (N := some 43) (v := ?_) (a' := ?_) #[true, false, false, false, false, false, false, false, false, false, false, false, false, false, false, false, false, false, false, false, false, false, false, false, false, false, false, false] rfl rfl (any_of HT_.out (by kernel_rfl)) (fun _ _ _ h => h) (Or.inl ⟨by rfl, ?_⟩) ?_ ?_
               rotate_left
               ·intro w'
                go_simp
                with_reducible rfl
               rotate_left
               ·simp only [Act.put, sA_, sB_, sC_, i64_w, i32_w]
                rfl
               refine pure_ (i := 1) (N := some 44) (v := ?_) (a' := ?_) #[true, true, false, false, false, false, false, false, false, false, false, false, false, false, false, false, false, false, false, false, false, false, false, false, false, false, false, false] rfl rfl (any_of HT_.out (by kernel_rfl)) (fun _ _ _ h => h) (Or.inl ⟨by rfl, ?_⟩) ?_ ?_
               rotate_left
               ·intro w'
                go_simp
                with_reducible rfl
               rotate_left
               ·simp only [Act.put, sA_, sB_, sC_, i64_w, i32_w]
                rfl
               refine pure_ (i := 2) (N := some 45) (v := ?_) (a' := ?_) #[true, true, true, false, false, false, false, false, false, false, false, false, false, false, false, false, false, false, false, false, false, false, false, false, false, false, false, false] rfl rfl (any_of HT_.out (by kernel_rfl)) (fun _ _ _ h => h) (Or.inl ⟨by rfl, ?_⟩) ?_ ?_
               rotate_left
               ·intro w'
                go_simp
                with_reducible rfl
               rotate_left
               ·simp only [Act.put, sA_, sB_, sC_, i64_w, i32_w]
                rfl
               refine pure_ (i := 4) (N := some 47) (v := ?_) (a' := ?_) #[true, true, true, false, true, false, false, false, false, false, false, false, false, false, false, false, false, false, false, false, false, false, false, false, false, false, false, false] rfl rfl (any_of HT_.out (by kernel_rfl)) (fun _ _ _ h => h) (Or.inl ⟨by rfl, ?_⟩) ?_ ?_
               rotate_left
               ·intro w'
                go_simp
                with_reducible rfl
               rotate_left
               ·simp only [Act.put, sA_, sB_, sC_, i64_w, i32_w]
                rfl
               refine pure_ (i := 5) (N := some 48) (v := ?_) (a' := ?_) #[true, true, true, false, true, true, false, false, false, false, false, false, false, false, false, false, false, false, false, false, false, false, false, false, false, false, false, false] rfl rfl (any_of HT_.out (by kernel_rfl)) (fun _ _ _ h => h) (Or.inl ⟨by rfl, ?_⟩) ?_ ?_
               rotate_left
               ·intro w'
                go_simp
                with_reducible rfl
               rotate_left
               ·simp only [Act.put, sA_, sB_, sC_, i64_w, i32_w]
                rfl
               refine pure_ (i := 6) (N := some 49) (v := ?_) (a' := ?_) #[true, true, true, false, true, true, true, false, false, false, false, false, false, false, false, false, false, false, false, false, false, false, false, false, false, false, false, false] rfl rfl (any_of HT_.out (by kernel_rfl)) (fun _ _ _ h => h) (Or.inl ⟨by rfl, ?_⟩) ?_ ?_
               rotate_left
               ·intro w'
                go_simp
                with_reducible rfl
               rotate_left
               ·simp only [Act.put, sA_, sB_, sC_, i64_w, i32_w]
                rfl
               refine pure_ (i := 8) (N := some 51) (v := ?_) (a' := ?_) #[true, true, true, false, true, true, true, false, true, false, false, false, false, false, false, false, false, false, false, false, false, false, false, false, false, false, false, false] rfl rfl (any_of HT_.out (by kernel_rfl)) (fun _ _ _ h => h) (Or.inl ⟨by rfl, ?_⟩) ?_ ?_
               rotate_left
               ·intro w'
                go_simp
                with_reducible rfl
               rotate_left
               ·simp only [Act.put, sA_, sB_, sC_, i64_w, i32_w]
                rfl
               refine pure_ (i := 9) (N := some 52) (v := ?_) (a' := ?_) #[true, true, true, false, true, true, true, false, true, true, false, false, false, false, false, false, false, false, false, false, false, false, false, false, false, false, false, false] rfl rfl (any_of HT_.out (by kernel_rfl)) (fun _ _ _ h => h) (Or.inl ⟨by rfl, ?_⟩) ?_ ?_
               rotate_left
               ·intro w'
                go_simp
                with_reducible rfl
               rotate_left
               ·simp only [Act.put, sA_, sB_, sC_, i64_w, i32_w]
                rfl
               refine pure_ (i := 10) (N := some 53) (v := ?_) (a' := ?_) #[true, true, true, false, true, true, true, false, true, true, true, false, false, false, false, false, false, false, false, false, false, false, false, false, false, false, false, false] rfl rfl (any_of HT_.out (by kernel_rfl)) (fun _ _ _ h => h) (Or.inl ⟨by rfl, ?_⟩) ?_ ?_
               rotate_left
               ·intro w'
                go_simp
                with_reducible rfl
               rotate_left
               ·simp only [Act.put, sA_, sB_, sC_, i64_w, i32_w]
                rfl
               refine pure_ (i := 12) (N := some 55) (v := ?_) (a' := ?_) #[true, true, true, false, true, true, true, false, true, true, true, false, true, false, false, false, false, false, false, false, false, false, false, false, false, false, false, false] rfl rfl (any_of HT_.out (by kernel_rfl)) (fun _ _ _ h => h) (Or.inl ⟨by rfl, ?_⟩) ?_ ?_
               rotate_left
               ·intro w'
                go_simp
                with_reducible rfl
               rotate_left
               ·simp only [Act.put, sA_, sB_, sC_, i64_w, i32_w]
                rfl
               refine pure_ (i := 13) (N := some 56) (v := ?_) (a' := ?_) #[true, true, true, false, true, true, true, false, true, true, true, false, true, true, false, false, false, false, false, false, false, false, false, false, false, false, false, false] rfl rfl (any_of HT_.out (by kernel_rfl)) (fun _ _ _ h => h) (Or.inl ⟨by rfl, ?_⟩) ?_ ?_
               rotate_left
               ·intro w'
                go_simp
                with_reducible rfl
               rotate_left
               ·simp only [Act.put, sA_, sB_, sC_, i64_w, i32_w]
                rfl
               refine pure_ (i := 14) (N := some 57) (v := ?_) (a' := ?_) #[true, true, true, false, true, true, true, false, true, true, true, false, true, true, true, false, false, false, false, false, false, false, false, false, false, false, false, false] rfl rfl (any_of HT_.out (by kernel_rfl)) (fun _ _ _ h => h) (Or.inl ⟨by rfl, ?_⟩) ?_ ?_
               rotate_left
               ·intro w'
                go_simp
                with_reducible rfl
               rotate_left
               ·simp only [Act.put, sA_, sB_, sC_, i64_w, i32_w]
                rfl
               refine pure_ (i := 16) (N := some 59) (v := ?_) (a' := ?_) #[true, true, true, false, true, true, true, false, true, true, true, false, true, true, true, false, true, false, false, false, false, false, false, false, false, false, false, false] rfl rfl (any_of HT_.out (by kernel_rfl)) (fun _ _ _ h => h) (Or.inl ⟨by rfl, ?_⟩) ?_ ?_
               rotate_left
               ·intro w'
                go_simp
                with_reducible rfl
               rotate_left
               ·simp only [Act.put, sA_, sB_, sC_, i64_w, i32_w]
                rfl
               refine pure_ (i := 17) (N := some 60) (v := ?_) (a' := ?_) #[true, true, true, false, true, true, true, false, true, true, true, false, true, true, true, false, true, true, false, false, false, false, false, false, false, false, false, false] rfl rfl (any_of HT_.out (by kernel_rfl)) (fun _ _ _ h => h) (Or.inl ⟨by rfl, ?_⟩) ?_ ?_
               rotate_left
               ·intro w'
                go_simp
                with_reducible rfl
               rotate_left
               ·simp only [Act.put, sA_, sB_, sC_, i64_w, i32_w]
                rfl
               refine pure_ (i := 18) (N := some 61) (v := ?_) (a' := ?_) #[true, true, true, false, true, true, true, false, true, true, true, false, true, true, true, false, true, true, true, false, false, false, false, false, false, false, false, false] rfl rfl (any_of HT_.out (by kernel_rfl)) (fun _ _ _ h => h) (Or.inl ⟨by rfl, ?_⟩) ?_ ?_
               rotate_left
               ·intro w'
                go_simp
                with_reducible rfl
               rotate_left
               ·simp only [Act.put, sA_, sB_, sC_, i64_w, i32_w]
                rfl
               refine pure_ (i := 20) (N := some 63) (v := ?_) (a' := ?_) #[true, true, true, false, true, true, true, false, true, true, true, false, true, true, true, false, true, true, true, false, true, false, false, false, false, false, false, false] rfl rfl (any_of HT_.out (by kernel_rfl)) (fun _ _ _ h => h) (Or.inl ⟨by rfl, ?_⟩) ?_ ?_
               rotate_left
               ·intro w'
                go_simp
                with_reducible rfl
               rotate_left
               ·simp only [Act.put, sA_, sB_, sC_, i64_w, i32_w]
                rfl
               refine pure_ (i := 21) (N := some 64) (v := ?_) (a' := ?_) #[true, true, true, false, true, true, true, false, true, true, true, false, true, true, true, false, true, true, true, false, true, true, false, false, false, false, false, false] rfl rfl (any_of HT_.out (by kernel_rfl)) (fun _ _ _ h => h) (Or.inl ⟨by rfl, ?_⟩) ?_ ?_
               rotate_left
               ·intro w'
                go_simp
                with_reducible rfl
               rotate_left
               ·simp only [Act.put, sA_, sB_, sC_, i64_w, i32_w]
                rfl
               refine pure_ (i := 22) (N := some 65) (v := ?_) (a' := ?_) #[true, true, true, false, true, true, true, false, true, true, true, false, true, true, true, false, true, true, true, false, true, true, true, false, false, false, false, false] rfl rfl (any_of HT_.out (by kernel_rfl)) (fun _ _ _ h => h) (Or.inl ⟨by rfl, ?_⟩) ?_ ?_
               rotate_left
               ·intro w'
                go_simp
                with_reducible rfl
               rotate_left
               ·simp only [Act.put, sA_, sB_, sC_, i64_w, i32_w]
                rfl
               refine take_ (i := 3) (N := some 46) (v := ?_) (a' := ?_) #[true, true, true, true, true, true, true, false, true, true, true, false, true, true, true, false, true, true, true, false, true, true, true, false, false, false, false, false] rfl rfl (take_ofW HT_.out HW_.out (by kernel_rfl)) (fun _ _ _ h => h) (Or.inl ⟨by rfl, ?_⟩) hHeld ?_ ?_
               rotate_left
               ·rintro w' ⟨s0, s1, s2, s3, s4, s5, s6, s7, s8, s9, s10, s11, s12, s13, s14, s15, s16, s17⟩
                go_simp
                with_reducible rfl
               rotate_left
               ·simp only [Act.put, sA_, sB_, sC_, i64_w, i32_w]
                rfl
               refine take_ (i := 7) (N := some 50) (v := ?_) (a' := ?_) #[true, true, true, true, true, true, true, true, true, true, true, false, true, true, true, false, true, true, true, false, true, true, true, false, false, false, false, false] rfl rfl (take_ofW HT_.out HW_.out (by kernel_rfl)) (fun _ _ _ h => h) (Or.inl ⟨by rfl, ?_⟩) hHeld ?_ ?_
               rotate_left
               ·rintro w' ⟨s0, s1, s2, s3, s4, s5, s6, s7, s8, s9, s10, s11, s12, s13, s14, s15, s16, s17⟩
                go_simp
                with_reducible rfl
               rotate_left
               ·simp only [Act.put, sA_, sB_, sC_, i64_w, i32_w]
                rfl
               refine take_ (i := 11) (N := some 54) (v := ?_) (a' := ?_) #[true, true, true, true, true, true, true, true, true, true, true, true, true, true, true, false, true, true, true, false, true, true, true, false, false, false, false, false] rfl rfl (take_ofW HT_.out HW_.out (by kernel_rfl)) (fun _ _ _ h => h) (Or.inl ⟨by rfl, ?_⟩) hHeld ?_ ?_
               rotate_left
               ·rintro w' ⟨s0, s1, s2, s3, s4, s5, s6, s7, s8, s9, s10, s11, s12, s13, s14, s15, s16, s17⟩
                go_simp
                with_reducible rfl
               rotate_left
               ·simp only [Act.put, sA_, sB_, sC_, i64_w, i32_w]
                rfl
               refine take_ (i := 15) (N := some 58) (v := ?_) (a' := ?_) #[true, true, true, true, true, true, true, true, true, true, true, true, true, true, true, true, true, true, true, false, true, true, true, false, false, false, false, false] rfl rfl (take_ofW HT_.out HW_.out (by kernel_rfl)) (fun _ _ _ h => h) (Or.inl ⟨by rfl, ?_⟩) hHeld ?_ ?_
               rotate_left
               ·rintro w' ⟨s0, s1, s2, s3, s4, s5, s6, s7, s8, s9, s10, s11, s12, s13, s14, s15, s16, s17⟩
                go_simp
                with_reducible rfl
               rotate_left
               ·simp only [Act.put, sA_, sB_, sC_, i64_w, i32_w]
                rfl
               refine take_ (i := 19) (N := some 62) (v := ?_) (a' := ?_) #[true, true, true, true, true, true, true, true, true, true, true, true, true, true, true, true, true, true, true, true, true, true, true, false, false, false, false, false] rfl rfl (take_ofW HT_.out HW_.out (by kernel_rfl)) (fun _ _ _ h => h) (Or.inl ⟨by rfl, ?_⟩) hHeld ?_ ?_
               rotate_left
               ·rintro w' ⟨s0, s1, s2, s3, s4, s5, s6, s7, s8, s9, s10, s11, s12, s13, s14, s15, s16, s17⟩
                go_simp
                with_reducible rfl
               rotate_left
               ·simp only [Act.put, sA_, sB_, sC_, i64_w, i32_w]
                rfl
               refine take_ (i := 23) (N := some 66) (v := ?_) (a' := ?_) #[true, true, true, true, true, true, true, true, true, true, true, true, true, true, true, true, true, true, true, true, true, true, true, true, false, false, false, false] rfl rfl (take_ofW HT_.out HW_.out (by kernel_rfl)) (fun _ _ _ h => h) (Or.inl ⟨by rfl, ?_⟩) hHeld ?_ ?_
               rotate_left
               ·rintro w' ⟨s0, s1, s2, s3, s4, s5, s6, s7, s8, s9, s10, s11, s12, s13, s14, s15, s16, s17⟩
                go_simp
                with_reducible rfl
               rotate_left
               ·simp only [Act.put, sA_, sB_, sC_, i64_w, i32_w]
                rfl
               refine pure_ (i := 24) (N := some 67) (v := ?_) (a' := ?_) #[true, true, true, true, true, true, true, true, true, true, true, true, true, true, true, true, true, true, true, true, true, true, true, true, true, false, false, false] rfl rfl (any_of HT_.out (by kernel_rfl)) (fun _ _ _ h => h) (Or.inl ⟨by rfl, ?_⟩) ?_ ?_
               rotate_left
               ·intro w'
                go_simp
                with_reducible rfl
               rotate_left
               ·simp only [Act.put, sA_, sB_, sC_, i64_w, i32_w]
                rfl
               refine pure_ (i := 25) (N := some 68) (v := ?_) (a' := ?_) #[true, true, true, true, true, true, true, true, true, true, true, true, true, true, true, true, true, true, true, true, true, true, true, true, true, true, false, false] rfl rfl (any_of HT_.out (by kernel_rfl)) (fun _ _ _ h => h) (Or.inl ⟨by rfl, ?_⟩) ?_ ?_
               rotate_left
               ·intro w'
                go_simp
                with_reducible rfl
               rotate_left
               ·simp only [Act.put, sA_, sB_, sC_, i64_w, i32_w]
                rfl
               refine one_ (i := 26) (N := some 8) #[true, true, true, true, true, true, true, true, true, true, true, true, true, true, true, true, true, true, true, true, true, true, true, true, true, true, true, false] rfl rfl (one_of HT_.out (by kernel_rfl)) (by decide) (fun K hK => ?_)
               refine box_step ?hg (N := 8) ?hd (cs := #[.int .i64 0, .int .i64 0, .int .i64 0, .string (⟨#[]⟩ : ByteArray), .int .i64 0, .bool false]) (t := 28) ?hr ?_; (case hd => rfl); (case hg => rfl); (case hr => first | (go_simp; done) | (go_simp; rfl))
               intro gb325 hg w48 hbox hb
               have HS0_ := (hb.cell (World.block_lt_of_cell? _ _ (hHeld.1))).trans (hHeld.1)
               have HS1_ := (hb.cell (World.block_lt_of_cell? _ _ (hHeld.2.1))).trans (hHeld.2.1)
               have HS2_ := (hb.cell (World.block_lt_of_cell? _ _ (hHeld.2.2.1))).trans (hHeld.2.2.1)
               have HS3_ := (hb.cell (World.block_lt_of_cell? _ _ (hHeld.2.2.2.1))).trans (hHeld.2.2.2.1)
               have HS4_ := (hb.cell (World.block_lt_of_cell? _ _ (hHeld.2.2.2.2.1))).trans (hHeld.2.2.2.2.1)
               have HS5_ := (hb.cell (World.block_lt_of_cell? _ _ (hHeld.2.2.2.2.2.1))).trans (hHeld.2.2.2.2.2.1)
               have HS6_ := (hb.cell (World.block_lt_of_cell? _ _ (hHeld.2.2.2.2.2.2.1))).trans (hHeld.2.2.2.2.2.2.1)
               have HS7_ := (hb.cell (World.block_lt_of_cell? _ _ (hHeld.2.2.2.2.2.2.2.1))).trans (hHeld.2.2.2.2.2.2.2.1)
               have HS8_ := (hb.cell (World.block_lt_of_cell? _ _ (hHeld.2.2.2.2.2.2.2.2.1))).trans (hHeld.2.2.2.2.2.2.2.2.1)
               have HS9_ := (hb.cell (World.block_lt_of_cell? _ _ (hHeld.2.2.2.2.2.2.2.2.2.1))).trans (hHeld.2.2.2.2.2.2.2.2.2.1)
               have HS10_ := (hb.cell (World.block_lt_of_cell? _ _ (hHeld.2.2.2.2.2.2.2.2.2.2.1))).trans (hHeld.2.2.2.2.2.2.2.2.2.2.1)
               have HS11_ := (hb.cell (World.block_lt_of_cell? _ _ (hHeld.2.2.2.2.2.2.2.2.2.2.2.1))).trans (hHeld.2.2.2.2.2.2.2.2.2.2.2.1)
               have HS12_ := (hb.cell (World.block_lt_of_cell? _ _ (hHeld.2.2.2.2.2.2.2.2.2.2.2.2.1))).trans (hHeld.2.2.2.2.2.2.2.2.2.2.2.2.1)
               have HS13_ := (hb.cell (World.block_lt_of_cell? _ _ (hHeld.2.2.2.2.2.2.2.2.2.2.2.2.2.1))).trans (hHeld.2.2.2.2.2.2.2.2.2.2.2.2.2.1)
               have HS14_ := (hb.cell (World.block_lt_of_cell? _ _ (hHeld.2.2.2.2.2.2.2.2.2.2.2.2.2.2.1))).trans (hHeld.2.2.2.2.2.2.2.2.2.2.2.2.2.2.1)
               have HS15_ := (hb.cell (World.block_lt_of_cell? _ _ (hHeld.2.2.2.2.2.2.2.2.2.2.2.2.2.2.2.1))).trans (hHeld.2.2.2.2.2.2.2.2.2.2.2.2.2.2.2.1)
               have HS16_ := (hb.cell (World.block_lt_of_cell? _ _ (hHeld.2.2.2.2.2.2.2.2.2.2.2.2.2.2.2.2.1))).trans (hHeld.2.2.2.2.2.2.2.2.2.2.2.2.2.2.2.2.1)
               have HS17_ := (hb.cell (World.block_lt_of_cell? _ _ (hHeld.2.2.2.2.2.2.2.2.2.2.2.2.2.2.2.2.2))).trans (hHeld.2.2.2.2.2.2.2.2.2.2.2.2.2.2.2.2.2)
               have n0_ := Aside0.mk (Kd.R_below kz6_11 hb)
               have n1_ := Aside0.mk (blk_below (g := gb308) (o := .cells #[.int .i64 0, .int .i64 0, .int .i64 0, .string (⟨#[]⟩ : ByteArray), .int .i64 0, .bool false] 28 (0, 0)) kz6_5 hb)
               have n2_ := Aside0.mk (below_step kz6_3 hb)
               have n3_ := Aside0.mk (hbox)
               have n4_ := Aside0.mk ((by rw [hg]; exact (below_size kz6_3) : w.heap.size ≤ gb325))
               have n5_ := Aside0.mk ((by rw [hg]; exact (below_size kz6_3) : w.heap.size ≤ gb325))
               have n6_ := Aside0.mk ((by rw [hg]; exact Nat.ne_of_lt (blk_lt (g := gb308) (o := .cells #[.int .i64 0, .int .i64 0, .int .i64 0, .string (⟨#[]⟩ : ByteArray), .int .i64 0, .bool false] 28 (0, 0)) kz6_5) : gb308 ≠ gb325))
               have n7_ := Aside0.mk ((by rw [hg]; exact Nat.ne_of_gt (blk_lt (g := gb308) (o := .cells #[.int .i64 0, .int .i64 0, .int .i64 0, .string (⟨#[]⟩ : ByteArray), .int .i64 0, .bool false] 28 (0, 0)) kz6_5) : gb325 ≠ gb308))
               clear HO_7
               clear BK308
               clear HB
               have HO_7 := n0_
               have BK308 := n1_
               have HB := n2_
               have BK325 := n3_
               have GW325 := n4_
               have GE325 := n5_
               have NB308_325 := n6_
               have NB325_308 := n7_
               clear n0_ n1_ n2_ n3_ n4_ n5_ n6_ n7_
               clear hb hbox hg
               refine hK.out _ _ ⟨HS0_, HS1_, HS2_, HS3_, HS4_, HS5_, HS6_, HS7_, HS8_, HS9_, HS10_, HS11_, HS12_, HS13_, HS14_, HS15_, HS16_, HS17_⟩ (fun hHeld => ?_)
               clear hK K
               refine norm_ (a' := ?_) ?_ ?_
               rotate_left
               ·show Act.put _ (some 8) _ = _
                simp only [Act.put, sA_, sB_, sC_, i64_w, i32_w]
                rfl
               refine one_ (i := 27) (N := none) #[true, true, true, true, true, true, true, true, true, true, true, true, true, true, true, true, true, true, true, true, true, true, true, true, true, true, true, true] rfl rfl (one_of HT_.out (by kernel_rfl)) (by decide) (fun K hK => ?_)
               have hs49 : w48.cell? ⟨gb325, 0, none⟩ = some (.int .i64 0) := (blk_cell BK325.out 0).trans rfl
               have hfs49 := blk_frozen BK325.out 0
               have hns49_0 := NB308_325.out
               have hms49_0 := NB325_308.out
               have hs50 : w48.cell? ⟨gb325, 1, none⟩ = some (.int .i64 0) := (blk_cell BK325.out 1).trans rfl
               have hfs50 := blk_frozen BK325.out 1
               have hns50_0 := NB308_325.out
               have hms50_0 := NB325_308.out
               have hs51 : w48.cell? ⟨gb325, 2, none⟩ = some (.int .i64 0) := (blk_cell BK325.out 2).trans rfl
               have hfs51 := blk_frozen BK325.out 2
               have hns51_0 := NB308_325.out
               have hms51_0 := NB325_308.out
               have hs52 : w48.cell? ⟨gb325, 3, none⟩ = some (.string (⟨#[]⟩ : ByteArray)) := (blk_cell BK325.out 3).trans rfl
               have hfs52 := blk_frozen BK325.out 3
               have hns52_0 := NB308_325.out
               have hms52_0 := NB325_308.out
               have hs53 : w48.cell? ⟨gb325, 4, none⟩ = some (.int .i64 0) := (blk_cell BK325.out 4).trans rfl
               have hfs53 := blk_frozen BK325.out 4
               have hns53_0 := NB308_325.out
               have hms53_0 := NB325_308.out
               have hs54 : w48.cell? ⟨gb325, 5, none⟩ = some (.bool false) := (blk_cell BK325.out 5).trans rfl
               have hfs54 := blk_frozen BK325.out 5
               have hns54_0 := NB308_325.out
               have hms54_0 := NB325_308.out
               refine skip_ (w1 := ?_) (by rfl) rfl ?_ ?_
               rotate_left
               ·go_simp
                rfl
               have hown_ : ad319.block ≠ gb325 := kz6_9
               refine hK.out _ _ ?hS_ (fun hHeld => ?_)
               case hS_ => exact ⟨cell_far6 hown_ hHeld.1, cell_far6 hown_ hHeld.2.1, cell_far6 hown_ hHeld.2.2.1, cell_far6 hown_ hHeld.2.2.2.1, cell_far6 hown_ hHeld.2.2.2.2.1, cell_far6 hown_ hHeld.2.2.2.2.2.1, cell_far6 hown_ hHeld.2.2.2.2.2.2.1, cell_far6 hown_ hHeld.2.2.2.2.2.2.2.1, cell_far6 hown_ hHeld.2.2.2.2.2.2.2.2.1, cell_far6 hown_ hHeld.2.2.2.2.2.2.2.2.2.1, cell_far6 hown_ hHeld.2.2.2.2.2.2.2.2.2.2.1, cell_far6 hown_ hHeld.2.2.2.2.2.2.2.2.2.2.2.1, cell_far6 hown_ hHeld.2.2.2.2.2.2.2.2.2.2.2.2.1, cell_far6 hown_ hHeld.2.2.2.2.2.2.2.2.2.2.2.2.2.1, cell_far6 hown_ hHeld.2.2.2.2.2.2.2.2.2.2.2.2.2.2.1, cell_far6 hown_ hHeld.2.2.2.2.2.2.2.2.2.2.2.2.2.2.2.1, cell_far6 hown_ hHeld.2.2.2.2.2.2.2.2.2.2.2.2.2.2.2.2.1, cell_far6 hown_ hHeld.2.2.2.2.2.2.2.2.2.2.2.2.2.2.2.2.2⟩
               clear hown_
               clear hK K
               refine done_ (done_of HT_.out (by kernel_rfl)) ?_
               have hnb55 := NB325_308.out
               have hnc55 := NB308_325.out
               have hcz56_0 : w48.cell? ⟨gb325, 0, none⟩ = some (.int .i64 0) := (blk_cell BK325.out 0).trans rfl
               have hcz56_1 : w48.cell? ⟨gb325, 1, none⟩ = some (.int .i64 0) := (blk_cell BK325.out 1).trans rfl
               have hcz56_2 : w48.cell? ⟨gb325, 2, none⟩ = some (.int .i64 0) := (blk_cell BK325.out 2).trans rfl
               have hcz56_3 : w48.cell? ⟨gb325, 3, none⟩ = some (.string (⟨#[]⟩ : ByteArray)) := (blk_cell BK325.out 3).trans rfl
               have hcz56_4 : w48.cell? ⟨gb325, 4, none⟩ = some (.int .i64 0) := (blk_cell BK325.out 4).trans rfl
               have hcz56_5 : w48.cell? ⟨gb325, 5, none⟩ = some (.bool false) := (blk_cell BK325.out 5).trans rfl
               have hfz56_0 := blk_frozen BK325.out 0
               have hfz56_1 := blk_frozen BK325.out 1
               have hfz56_2 := blk_frozen BK325.out 2
               have hfz56_3 := blk_frozen BK325.out 3
               have hfz56_4 := blk_frozen BK325.out 4
               have hfz56_5 := blk_frozen BK325.out 5
               try go_wp2_with (first | ((with_reducible refine gate_callee (f := 34) rfl ?_); refine goesL_ (some 71) rfl rfl Try.func34 (by kernel_rfl) rfl #[.agg #[.int .i64 ((rd_T112 t314 0).f1), .int .i64 ((rd_T112 t314 1).f1), .int .i64 ((rd_T112 t314 2).f1), .string ((rd_T112 t314 3).f2), .int .i64 ((rd_T112 t314 4).f1), .bool (((rd_T112 t314 5).f1) == 1)]] rfl kz6_10 ?_; (with_reducible refine (outbox_Encode.calls kj9 ((rd_T112 t314 0).f1) ((rd_T112 t314 1).f1) ((rd_T112 t314 2).f1) ((rd_T112 t314 3).f2) ((rd_T112 t314 4).f1) (((rd_T112 t314 5).f1) == 1) t326 t329 _ A27.out).mono ?_); rintro e w57 ⟨v327, rfl, ho0, hb⟩; refine ⟨_, rfl, ?_⟩; have n0_ := Aside0.mk (Kd.R_below kz6_6 hb); have n1_ := Aside0.mk (Kd.R_lower ho0 (below_size kz6_7)); have n2_ := Aside0.mk (blk_below (g := gb308) (o := .cells #[.int .i64 0, .int .i64 0, .int .i64 0, .string (⟨#[]⟩ : ByteArray), .int .i64 0, .bool false] 28 (0, 0)) kz6_4 hb); have n3_ := Aside0.mk (blk_below (g := gb325) (o := .cells #[.int .i64 ((rd_T112 t314 0).f1), .int .i64 ((rd_T112 t314 1).f1), .int .i64 ((rd_T112 t314 2).f1), .string ((rd_T112 t314 3).f2), .int .i64 ((rd_T112 t314 4).f1), .bool (((rd_T112 t314 5).f1) == 1)] 28 (0, 0)) kz6_2 hb); have n4_ := Aside0.mk (below_step kz6_7 hb); clear HO_7; clear BK308; clear BK325; clear HB; have HO_7 := n0_; have HO328 := n1_; have BK308 := n2_; have BK325 := n3_; have HB := n4_; clear n0_ n1_ n2_ n3_ n4_; (try clear hb); (try clear hb2); (try clear hk); (try clear hi); (try clear ho0); obtain ⟨Ao58, co58, eo58⟩ := Kd.R_slice HO328.out; subst eo58) | (go_at_call 63; (with_reducible refine (slices_Equal_byte_byte.calls kj9 _ _ t326 _ _ l0 false _ ?side1 ?side2 ?side3 ?side4 A29.out).mono ?_); (case side1 => repeat (first | exact (Kd.R_reads' HO328.out).2.2 | (with_reducible refine Kd.C_alloc ?_ _) | (with_reducible refine Kd.C_drewN ?_ _) | (with_reducible refine Kd.C_drew ?_))); (case side2 => exact (Kd.R_reads' HO328.out).2.1); (case side3 => repeat (first | exact (Kd.C_below HR0.out HB.out) | (with_reducible refine Kd.C_alloc ?_ _) | (with_reducible refine Kd.C_drewN ?_ _) | (with_reducible refine Kd.C_drew ?_))); (case side4 => exact HC0.out); rintro e w' ⟨rfl, ⟨nd, rfl⟩⟩; (try (rw [drewN_self w57]; generalize hq_ : World.drewN w57 _ = w57; have n0_ : Aside0 (Kd.R (Kd.int .u8) 5 w57 w.heap.size (fun _ => True) (.slice Ao58 t326.length co58) t326) := ⟨by rw [← hq_]; exact (by (with_reducible repeat (first | apply Kd.R_alloc | apply Kd.R_drewN | apply Kd.R_drew)); exact HO328.out)⟩; have n1_ : Aside0 (Kd.R k112 112 w57 w.heap.size (fun _ => True) (.slice (some ad319) t314.length co47) t314) := ⟨by rw [← hq_]; exact kz6_11⟩; have n2_ : Aside0 (w57.heap[gb308]? = some (.cells #[.int .i64 0, .int .i64 0, .int .i64 0, .string (⟨#[]⟩ : ByteArray), .int .i64 0, .bool false] 28 (0, 0))) := ⟨by rw [← hq_]; exact kz6_5⟩; have n3_ : Aside0 (w57.heap[gb325]? = some (.cells #[.int .i64 ((rd_T112 t314 0).f1), .int .i64 ((rd_T112 t314 1).f1), .int .i64 ((rd_T112 t314 2).f1), .string ((rd_T112 t314 3).f2), .int .i64 ((rd_T112 t314 4).f1), .bool (((rd_T112 t314 5).f1) == 1)] 28 (0, 0))) := ⟨by rw [← hq_]; exact (by (with_reducible repeat (first | refine blk_drewN ?_ _ | refine blk_drew ?_ | refine blk_alloc ?_ _)); exact BK325.out)⟩; have n4_ : Aside0 (Below w.heap.size w w57) := ⟨by rw [← hq_]; exact kz6_7⟩; clear HO328 HO_7 BK308 BK325 HB hq_; have HO328 := n0_; have HO_7 := n1_; have BK308 := n2_; have BK325 := n3_; have HB := n4_; clear n0_ n1_ n2_ n3_ n4_)); have hcz59_0 : w57.cell? ⟨gb308, 0, none⟩ = some (.int .i64 0) := (blk_cell BK308.out 0).trans rfl; have hcz59_1 : w57.cell? ⟨gb308, 1, none⟩ = some (.int .i64 0) := (blk_cell BK308.out 1).trans rfl; have hcz59_2 : w57.cell? ⟨gb308, 2, none⟩ = some (.int .i64 0) := (blk_cell BK308.out 2).trans rfl; have hcz59_3 : w57.cell? ⟨gb308, 3, none⟩ = some (.string (⟨#[]⟩ : ByteArray)) := (blk_cell BK308.out 3).trans rfl; have hcz59_4 : w57.cell? ⟨gb308, 4, none⟩ = some (.int .i64 0) := (blk_cell BK308.out 4).trans rfl; have hcz59_5 : w57.cell? ⟨gb308, 5, none⟩ = some (.bool false) := (blk_cell BK308.out 5).trans rfl; have hfz59_0 := blk_frozen BK308.out 0; have hfz59_1 := blk_frozen BK308.out 1; have hfz59_2 := blk_frozen BK308.out 2; have hfz59_3 := blk_frozen BK308.out 3; have hfz59_4 := blk_frozen BK308.out 4; have hfz59_5 := blk_frozen BK308.out 5))
               refine bodyPost_ret (results_ct rfl _ _ gb308 28 #[.int .i64 0, .int .i64 0, .int .i64 0, .string (⟨#[]⟩ : ByteArray), .int .i64 0, .bool false] (0, 0) _ rfl kz6_1 Try.underlying28 rfl (by kernel_rfl)) rfl ?_
               exact ⟨by first | rfl | (simp [errW_none, errW_some] <;> rfl) | (simp [*, errW_none, errW_some] <;> rfl), by repeat (first | (with_reducible first | exact HB.out | apply below_alloc | apply pw_below_drewN | apply below_drew1 | refine below_set ?_ GE308.out | refine below_set ?_ GE325.out) | exact HB.out)⟩
             ·rw [if_neg c28] at H
              have c28b0 : (t329 == 0) = false := beq_eq_false_iff_ne.mpr c28
              have c28b1 : (t329 != 0) = true := bne_iff_ne.mpr c28
              simp only [Option.some.injEq, Prod.mk.injEq] at H
              obtain ⟨rfl, rfl, rfl, rfl, rfl, rfl, rfl⟩ := H
              try go_wp2
              have n0_ := Aside0.mk (Kd.R_drew HO_7.out)
              have n1_ := Aside0.mk (blk_drew BK308.out)
              have n2_ := Aside0.mk (below_drew1 HB.out)
              clear HO_7
              clear BK308
              clear HB
              have HO_7 := n0_
              have BK308 := n1_
              have HB := n2_
              clear n0_ n1_ n2_
              obtain ⟨Ao61, co61, eo61⟩ := Kd.R_slice HO_7.out
              (first | subst eo61 | (injection eo61 with f1_ f2_ f3_; have f4_ := f1_.symm; have f5_ := f3_.symm; clear f1_ f2_ f3_; subst f4_; subst f5_))
              have p319 : 0 ≤ (0 : Int) := (by omega)
              have q319 : 0 < (t314.length : Int) := of_decide_eq_true kz6_8
              obtain ⟨ad319, e319, hx319_0, hx319_1, hx319_2⟩ := at_T112 (Kd.R_reads' HO_7.out).2.2 0 p319 q319
              cases e319
              have qi319 : (0 < t314.length) = True := eq_true (by omega)
              (try rw [show ((0 : Int)).toNat = 0 from rfl] at hx319_0)
              (try rw [show 0 * 3 = 0 from rfl] at hx319_0)
              (try rw [Addr.add_zero'] at hx319_0)
              (try rw [show ((0 : Int)).toNat = 0 from rfl] at hx319_1)
              (try rw [show 0 * 3 = 0 from rfl] at hx319_1)
              (try rw [Addr.add_zero'] at hx319_1)
              (try rw [show ((0 : Int)).toNat = 0 from rfl] at hx319_2)
              (try rw [show 0 * 3 = 0 from rfl] at hx319_2)
              (try rw [Addr.add_zero'] at hx319_2)
              replace p319 := eq_true p319
              replace q319 := eq_true q319
              have p320 : 0 ≤ (1 : Int) := (by omega)
              have q320 : 1 < (t314.length : Int) := of_decide_eq_true kz6_8
              obtain ⟨ad320, e320, hx320_0, hx320_1, hx320_2⟩ := at_T112 (Kd.R_reads' HO_7.out).2.2 1 p320 q320
              obtain rfl : ad319 = ad320 := (by injection e320)
              (try simp only [show (1 : Int).toNat = 1 from rfl, Nat.reduceMul, Nat.reduceEqDiff, Go.Addr.add, ↓reduceIte] at hx320_0)
              (try simp only [show (1 : Int).toNat = 1 from rfl, Nat.reduceMul, Nat.reduceEqDiff, Go.Addr.add, ↓reduceIte] at hx320_1)
              (try simp only [show (1 : Int).toNat = 1 from rfl, Nat.reduceMul, Nat.reduceEqDiff, Go.Addr.add, ↓reduceIte] at hx320_2)
              have qi320 : (1 < t314.length) = True := eq_true (by omega)
              (try rw [show ((1 : Int)).toNat = 1 from rfl] at hx320_0)
              (try rw [show 1 * 3 = 3 from rfl] at hx320_0)
              (try rw [show ((1 : Int)).toNat = 1 from rfl] at hx320_1)
              (try rw [show 1 * 3 = 3 from rfl] at hx320_1)
              (try rw [show ((1 : Int)).toNat = 1 from rfl] at hx320_2)
              (try rw [show 1 * 3 = 3 from rfl] at hx320_2)
              replace p320 := eq_true p320
              replace q320 := eq_true q320
              have p321 : 0 ≤ (2 : Int) := (by omega)
              have q321 : 2 < (t314.length : Int) := of_decide_eq_true kz6_8
              obtain ⟨ad321, e321, hx321_0, hx321_1, hx321_2⟩ := at_T112 (Kd.R_reads' HO_7.out).2.2 2 p321 q321
              obtain rfl : ad319 = ad321 := (by injection e321)
              (try simp only [show (2 : Int).toNat = 2 from rfl, Nat.reduceMul, Nat.reduceEqDiff, Go.Addr.add, ↓reduceIte] at hx321_0)
              (try simp only [show (2 : Int).toNat = 2 from rfl, Nat.reduceMul, Nat.reduceEqDiff, Go.Addr.add, ↓reduceIte] at hx321_1)
              (try simp only [show (2 : Int).toNat = 2 from rfl, Nat.reduceMul, Nat.reduceEqDiff, Go.Addr.add, ↓reduceIte] at hx321_2)
              have qi321 : (2 < t314.length) = True := eq_true (by omega)
              (try rw [show ((2 : Int)).toNat = 2 from rfl] at hx321_0)
              (try rw [show 2 * 3 = 6 from rfl] at hx321_0)
              (try rw [show ((2 : Int)).toNat = 2 from rfl] at hx321_1)
              (try rw [show 2 * 3 = 6 from rfl] at hx321_1)
              (try rw [show ((2 : Int)).toNat = 2 from rfl] at hx321_2)
              (try rw [show 2 * 3 = 6 from rfl] at hx321_2)
              replace p321 := eq_true p321
              replace q321 := eq_true q321
              have p322 : 0 ≤ (3 : Int) := (by omega)
              have q322 : 3 < (t314.length : Int) := of_decide_eq_true kz6_8
              obtain ⟨ad322, e322, hx322_0, hx322_1, hx322_2⟩ := at_T112 (Kd.R_reads' HO_7.out).2.2 3 p322 q322
              obtain rfl : ad319 = ad322 := (by injection e322)
              (try simp only [show (3 : Int).toNat = 3 from rfl, Nat.reduceMul, Nat.reduceEqDiff, Go.Addr.add, ↓reduceIte] at hx322_0)
              (try simp only [show (3 : Int).toNat = 3 from rfl, Nat.reduceMul, Nat.reduceEqDiff, Go.Addr.add, ↓reduceIte] at hx322_1)
              (try simp only [show (3 : Int).toNat = 3 from rfl, Nat.reduceMul, Nat.reduceEqDiff, Go.Addr.add, ↓reduceIte] at hx322_2)
              have qi322 : (3 < t314.length) = True := eq_true (by omega)
              (try rw [show ((3 : Int)).toNat = 3 from rfl] at hx322_0)
              (try rw [show 3 * 3 = 9 from rfl] at hx322_0)
              (try rw [show ((3 : Int)).toNat = 3 from rfl] at hx322_1)
              (try rw [show 3 * 3 = 9 from rfl] at hx322_1)
              (try rw [show ((3 : Int)).toNat = 3 from rfl] at hx322_2)
              (try rw [show 3 * 3 = 9 from rfl] at hx322_2)
              replace p322 := eq_true p322
              replace q322 := eq_true q322
              have p323 : 0 ≤ (4 : Int) := (by omega)
              have q323 : 4 < (t314.length : Int) := of_decide_eq_true kz6_8
              obtain ⟨ad323, e323, hx323_0, hx323_1, hx323_2⟩ := at_T112 (Kd.R_reads' HO_7.out).2.2 4 p323 q323
              obtain rfl : ad319 = ad323 := (by injection e323)
              (try simp only [show (4 : Int).toNat = 4 from rfl, Nat.reduceMul, Nat.reduceEqDiff, Go.Addr.add, ↓reduceIte] at hx323_0)
              (try simp only [show (4 : Int).toNat = 4 from rfl, Nat.reduceMul, Nat.reduceEqDiff, Go.Addr.add, ↓reduceIte] at hx323_1)
              (try simp only [show (4 : Int).toNat = 4 from rfl, Nat.reduceMul, Nat.reduceEqDiff, Go.Addr.add, ↓reduceIte] at hx323_2)
              have qi323 : (4 < t314.length) = True := eq_true (by omega)
              (try rw [show ((4 : Int)).toNat = 4 from rfl] at hx323_0)
              (try rw [show 4 * 3 = 12 from rfl] at hx323_0)
              (try rw [show ((4 : Int)).toNat = 4 from rfl] at hx323_1)
              (try rw [show 4 * 3 = 12 from rfl] at hx323_1)
              (try rw [show ((4 : Int)).toNat = 4 from rfl] at hx323_2)
              (try rw [show 4 * 3 = 12 from rfl] at hx323_2)
              replace p323 := eq_true p323
              replace q323 := eq_true q323
              have p324 : 0 ≤ (5 : Int) := (by omega)
              have q324 : 5 < (t314.length : Int) := of_decide_eq_true kz6_8
              obtain ⟨ad324, e324, hx324_0, hx324_1, hx324_2⟩ := at_T112 (Kd.R_reads' HO_7.out).2.2 5 p324 q324
              obtain rfl : ad319 = ad324 := (by injection e324)
              (try simp only [show (5 : Int).toNat = 5 from rfl, Nat.reduceMul, Nat.reduceEqDiff, Go.Addr.add, ↓reduceIte] at hx324_0)
              (try simp only [show (5 : Int).toNat = 5 from rfl, Nat.reduceMul, Nat.reduceEqDiff, Go.Addr.add, ↓reduceIte] at hx324_1)
              (try simp only [show (5 : Int).toNat = 5 from rfl, Nat.reduceMul, Nat.reduceEqDiff, Go.Addr.add, ↓reduceIte] at hx324_2)
              have qi324 : (5 < t314.length) = True := eq_true (by omega)
              (try rw [show ((5 : Int)).toNat = 5 from rfl] at hx324_0)
              (try rw [show 5 * 3 = 15 from rfl] at hx324_0)
              (try rw [show ((5 : Int)).toNat = 5 from rfl] at hx324_1)
              (try rw [show 5 * 3 = 15 from rfl] at hx324_1)
              (try rw [show ((5 : Int)).toNat = 5 from rfl] at hx324_2)
              (try rw [show 5 * 3 = 15 from rfl] at hx324_2)
              replace p324 := eq_true p324
              replace q324 := eq_true q324
              refine start_ (n := 28) (S := fun w' => w'.cell? ad319 = some (.bool ((rd_T112 t314 0).f0)) ∧ w'.cell? ⟨ad319.block, ad319.off + 1, none⟩ = some (.int .i64 ((rd_T112 t314 0).f1)) ∧ w'.cell? ⟨ad319.block, ad319.off + 2, none⟩ = some (.string ((rd_T112 t314 0).f2)) ∧ w'.cell? ⟨ad319.block, ad319.off + 3, none⟩ = some (.bool ((rd_T112 t314 1).f0)) ∧ w'.cell? ⟨ad319.block, ad319.off + 3 + 1, none⟩ = some (.int .i64 ((rd_T112 t314 1).f1)) ∧ w'.cell? ⟨ad319.block, ad319.off + 3 + 2, none⟩ = some (.string ((rd_T112 t314 1).f2)) ∧ w'.cell? ⟨ad319.block, ad319.off + 6, none⟩ = some (.bool ((rd_T112 t314 2).f0)) ∧ w'.cell? ⟨ad319.block, ad319.off + 6 + 1, none⟩ = some (.int .i64 ((rd_T112 t314 2).f1)) ∧ w'.cell? ⟨ad319.block, ad319.off + 6 + 2, none⟩ = some (.string ((rd_T112 t314 2).f2)) ∧ w'.cell? ⟨ad319.block, ad319.off + 9, none⟩ = some (.bool ((rd_T112 t314 3).f0)) ∧ w'.cell? ⟨ad319.block, ad319.off + 9 + 1, none⟩ = some (.int .i64 ((rd_T112 t314 3).f1)) ∧ w'.cell? ⟨ad319.block, ad319.off + 9 + 2, none⟩ = some (.string ((rd_T112 t314 3).f2)) ∧ w'.cell? ⟨ad319.block, ad319.off + 12, none⟩ = some (.bool ((rd_T112 t314 4).f0)) ∧ w'.cell? ⟨ad319.block, ad319.off + 12 + 1, none⟩ = some (.int .i64 ((rd_T112 t314 4).f1)) ∧ w'.cell? ⟨ad319.block, ad319.off + 12 + 2, none⟩ = some (.string ((rd_T112 t314 4).f2)) ∧ w'.cell? ⟨ad319.block, ad319.off + 15, none⟩ = some (.bool ((rd_T112 t314 5).f0)) ∧ w'.cell? ⟨ad319.block, ad319.off + 15 + 1, none⟩ = some (.int .i64 ((rd_T112 t314 5).f1)) ∧ w'.cell? ⟨ad319.block, ad319.off + 15 + 2, none⟩ = some (.string ((rd_T112 t314 5).f2))) (ds := []) #[false, false, false, false, false, false, false, false, false, false, false, false, false, false, false, false, false, false, false, false, false, false, false, false, false, false, false, false] (by kernel_rfl) rfl rfl ⟨hx319_0, hx319_1, hx319_2, hx320_0, hx320_1, hx320_2, hx321_0, hx321_1, hx321_2, hx322_0, hx322_1, hx322_2, hx323_0, hx323_1, hx323_2, hx324_0, hx324_1, hx324_2⟩ (fun hHeld => ?_); refine with_tabW outbox_Decode.tab7 outbox_Decode.bits7 (fun HT_ HW_ => ?_)
              generalize wc.drew = w60 at HO_7 BK308 HB hx319_0 hx319_1 hx319_2 hx320_0 hx320_1 hx320_2 hx321_0 hx321_1 hx321_2 hx322_0 hx322_1 hx322_2 hx323_0 hx323_1 hx323_2 hx324_0 hx324_1 hx324_2 hHeld ⊢
              refine pure_ (i := 0) (N := some 43) (v := ?_) (a' := ?_) #[true, false, false, false, false, false, false, false, false, false, false, false, false, false, false, false, false, false, false, false, false, false, false, false, false, false, false, false] rfl rfl (any_of HT_.out (by kernel_rfl)) (fun _ _ _ h => h) (Or.inl ⟨by rfl, ?_⟩) ?_ ?_
              rotate_left
              ·intro w'
               go_simp
               with_reducible rfl
              rotate_left
              ·simp only [Act.put, sA_, sB_, sC_, i64_w, i32_w]
               rfl
              refine pure_ (i := 1) (N := some 44) (v := ?_) (a' := ?_) #[true, true, false, false, false, false, false, false, false, false, false, false, false, false, false, false, false, false, false, false, false, false, false, false, false, false, false, false] rfl rfl (any_of HT_.out (by kernel_rfl)) (fun _ _ _ h => h) (Or.inl ⟨by rfl, ?_⟩) ?_ ?_
              rotate_left
              ·intro w'
               go_simp
               with_reducible rfl
              rotate_left
              ·simp only [Act.put, sA_, sB_, sC_, i64_w, i32_w]
               rfl
              refine pure_ (i := 2) (N := some 45) (v := ?_) (a' := ?_) #[true, true, true, false, false, false, false, false, false, false, false, false, false, false, false, false, false, false, false, false, false, false, false, false, false, false, false, false] rfl rfl (any_of HT_.out (by kernel_rfl)) (fun _ _ _ h => h) (Or.inl ⟨by rfl, ?_⟩) ?_ ?_
              rotate_left
              ·intro w'
               go_simp
               with_reducible rfl
              rotate_left
              ·simp only [Act.put, sA_, sB_, sC_, i64_w, i32_w]
               rfl
              refine pure_ (i := 4) (N := some 47) (v := ?_) (a' := ?_) #[true, true, true, false, true, false, false, false, false, false, false, false, false, false, false, false, false, false, false, false, false, false, false, false, false, false, false, false] rfl rfl (any_of HT_.out (by kernel_rfl)) (fun _ _ _ h => h) (Or.inl ⟨by rfl, ?_⟩) ?_ ?_
              rotate_left
              ·intro w'
               go_simp
               with_reducible rfl
              rotate_left
              ·simp only [Act.put, sA_, sB_, sC_, i64_w, i32_w]
               rfl
              refine pure_ (i := 5) (N := some 48) (v := ?_) (a' := ?_) #[true, true, true, false, true, true, false, false, false, false, false, false, false, false, false, false, false, false, false, false, false, false, false, false, false, false, false, false] rfl rfl (any_of HT_.out (by kernel_rfl)) (fun _ _ _ h => h) (Or.inl ⟨by rfl, ?_⟩) ?_ ?_
              rotate_left
              ·intro w'
               go_simp
               with_reducible rfl
              rotate_left
              ·simp only [Act.put, sA_, sB_, sC_, i64_w, i32_w]
               rfl
              refine pure_ (i := 6) (N := some 49) (v := ?_) (a' := ?_) #[true, true, true, false, true, true, true, false, false, false, false, false, false, false, false, false, false, false, false, false, false, false, false, false, false, false, false, false] rfl rfl (any_of HT_.out (by kernel_rfl)) (fun _ _ _ h => h) (Or.inl ⟨by rfl, ?_⟩) ?_ ?_
              rotate_left
              ·intro w'
               go_simp
               with_reducible rfl
              rotate_left
              ·simp only [Act.put, sA_, sB_, sC_, i64_w, i32_w]
               rfl
              refine pure_ (i := 8) (N := some 51) (v := ?_) (a' := ?_) #[true, true, true, false, true, true, true, false, true, false, false, false, false, false, false, false, false, false, false, false, false, false, false, false, false, false, false, false] rfl rfl (any_of HT_.out (by kernel_rfl)) (fun _ _ _ h => h) (Or.inl ⟨by rfl, ?_⟩) ?_ ?_
              rotate_left
              ·intro w'
               go_simp
               with_reducible rfl
              rotate_left
              ·simp only [Act.put, sA_, sB_, sC_, i64_w, i32_w]
               rfl
              refine pure_ (i := 9) (N := some 52) (v := ?_) (a' := ?_) #[true, true, true, false, true, true, true, false, true, true, false, false, false, false, false, false, false, false, false, false, false, false, false, false, false, false, false, false] rfl rfl (any_of HT_.out (by kernel_rfl)) (fun _ _ _ h => h) (Or.inl ⟨by rfl, ?_⟩) ?_ ?_
              rotate_left
              ·intro w'
               go_simp
               with_reducible rfl
              rotate_left
              ·simp only [Act.put, sA_, sB_, sC_, i64_w, i32_w]
               rfl
              refine pure_ (i := 10) (N := some 53) (v := ?_) (a' := ?_) #[true, true, true, false, true, true, true, false, true, true, true, false, false, false, false, false, false, false, false, false, false, false, false, false, false, false, false, false] rfl rfl (any_of HT_.out (by kernel_rfl)) (fun _ _ _ h => h) (Or.inl ⟨by rfl, ?_⟩) ?_ ?_
              rotate_left
              ·intro w'
               go_simp
               with_reducible rfl
              rotate_left
              ·simp only [Act.put, sA_, sB_, sC_, i64_w, i32_w]
               rfl
              refine pure_ (i := 12) (N := some 55) (v := ?_) (a' := ?_) #[true, true, true, false, true, true, true, false, true, true, true, false, true, false, false, false, false, false, false, false, false, false, false, false, false, false, false, false] rfl rfl (any_of HT_.out (by kernel_rfl)) (fun _ _ _ h => h) (Or.inl ⟨by rfl, ?_⟩) ?_ ?_
              rotate_left
              ·intro w'
               go_simp
               with_reducible rfl
              rotate_left
              ·simp only [Act.put, sA_, sB_, sC_, i64_w, i32_w]
               rfl
              refine pure_ (i := 13) (N := some 56) (v := ?_) (a' := ?_) #[true, true, true, false, true, true, true, false, true, true, true, false, true, true, false, false, false, false, false, false, false, false, false, false, false, false, false, false] rfl rfl (any_of HT_.out (by kernel_rfl)) (fun _ _ _ h => h) (Or.inl ⟨by rfl, ?_⟩) ?_ ?_
              rotate_left
              ·intro w'
               go_simp
               with_reducible rfl
              rotate_left
              ·simp only [Act.put, sA_, sB_, sC_, i64_w, i32_w]
               rfl
              refine pure_ (i := 14) (N := some 57) (v := ?_) (a' := ?_) #[true, true, true, false, true, true, true, false, true, true, true, false, true, true, true, false, false, false, false, false, false, false, false, false, false, false, false, false] rfl rfl (any_of HT_.out (by kernel_rfl)) (fun _ _ _ h => h) (Or.inl ⟨by rfl, ?_⟩) ?_ ?_
              rotate_left
              ·intro w'
               go_simp
               with_reducible rfl
              rotate_left
              ·simp only [Act.put, sA_, sB_, sC_, i64_w, i32_w]
               rfl
              refine pure_ (i := 16) (N := some 59) (v := ?_) (a' := ?_) #[true, true, true, false, true, true, true, false, true, true, true, false, true, true, true, false, true, false, false, false, false, false, false, false, false, false, false, false] rfl rfl (any_of HT_.out (by kernel_rfl)) (fun _ _ _ h => h) (Or.inl ⟨by rfl, ?_⟩) ?_ ?_
              rotate_left
              ·intro w'
               go_simp
               with_reducible rfl
              rotate_left
              ·simp only [Act.put, sA_, sB_, sC_, i64_w, i32_w]
               rfl
              refine pure_ (i := 17) (N := some 60) (v := ?_) (a' := ?_) #[true, true, true, false, true, true, true, false, true, true, true, false, true, true, true, false, true, true, false, false, false, false, false, false, false, false, false, false] rfl rfl (any_of HT_.out (by kernel_rfl)) (fun _ _ _ h => h) (Or.inl ⟨by rfl, ?_⟩) ?_ ?_
              rotate_left
              ·intro w'
               go_simp
               with_reducible rfl
              rotate_left
              ·simp only [Act.put, sA_, sB_, sC_, i64_w, i32_w]
               rfl
              refine pure_ (i := 18) (N := some 61) (v := ?_) (a' := ?_) #[true, true, true, false, true, true, true, false, true, true, true, false, true, true, true, false, true, true, true, false, false, false, false, false, false, false, false, false] rfl rfl (any_of HT_.out (by kernel_rfl)) (fun _ _ _ h => h) (Or.inl ⟨by rfl, ?_⟩) ?_ ?_
              rotate_left
              ·intro w'
               go_simp
               with_reducible rfl
              rotate_left
              ·simp only [Act.put, sA_, sB_, sC_, i64_w, i32_w]
               rfl
              refine pure_ (i := 20) (N := some 63) (v := ?_) (a' := ?_) #[true, true, true, false, true, true, true, false, true, true, true, false, true, true, true, false, true, true, true, false, true, false, false, false, false, false, false, false] rfl rfl (any_of HT_.out (by kernel_rfl)) (fun _ _ _ h => h) (Or.inl ⟨by rfl, ?_⟩) ?_ ?_
              rotate_left
              ·intro w'
               go_simp
               with_reducible rfl
              rotate_left
              ·simp only [Act.put, sA_, sB_, sC_, i64_w, i32_w]
               rfl
              refine pure_ (i := 21) (N := some 64) (v := ?_) (a' := ?_) #[true, true, true, false, true, true, true, false, true, true, true, false, true, true, true, false, true, true, true, false, true, true, false, false, false, false, false, false] rfl rfl (any_of HT_.out (by kernel_rfl)) (fun _ _ _ h => h) (Or.inl ⟨by rfl, ?_⟩) ?_ ?_
              rotate_left
              ·intro w'
               go_simp
               with_reducible rfl
              rotate_left
              ·simp only [Act.put, sA_, sB_, sC_, i64_w, i32_w]
               rfl
              refine pure_ (i := 22) (N := some 65) (v := ?_) (a' := ?_) #[true, true, true, false, true, true, true, false, true, true, true, false, true, true, true, false, true, true, true, false, true, true, true, false, false, false, false, false] rfl rfl (any_of HT_.out (by kernel_rfl)) (fun _ _ _ h => h) (Or.inl ⟨by rfl, ?_⟩) ?_ ?_
              rotate_left
              ·intro w'
               go_simp
               with_reducible rfl
              rotate_left
              ·simp only [Act.put, sA_, sB_, sC_, i64_w, i32_w]
               rfl
              refine take_ (i := 3) (N := some 46) (v := ?_) (a' := ?_) #[true, true, true, true, true, true, true, false, true, true, true, false, true, true, true, false, true, true, true, false, true, true, true, false, false, false, false, false] rfl rfl (take_ofW HT_.out HW_.out (by kernel_rfl)) (fun _ _ _ h => h) (Or.inl ⟨by rfl, ?_⟩) hHeld ?_ ?_
              rotate_left
              ·rintro w' ⟨s0, s1, s2, s3, s4, s5, s6, s7, s8, s9, s10, s11, s12, s13, s14, s15, s16, s17⟩
               go_simp
               with_reducible rfl
              rotate_left
              ·simp only [Act.put, sA_, sB_, sC_, i64_w, i32_w]
               rfl
              refine take_ (i := 7) (N := some 50) (v := ?_) (a' := ?_) #[true, true, true, true, true, true, true, true, true, true, true, false, true, true, true, false, true, true, true, false, true, true, true, false, false, false, false, false] rfl rfl (take_ofW HT_.out HW_.out (by kernel_rfl)) (fun _ _ _ h => h) (Or.inl ⟨by rfl, ?_⟩) hHeld ?_ ?_
              rotate_left
              ·rintro w' ⟨s0, s1, s2, s3, s4, s5, s6, s7, s8, s9, s10, s11, s12, s13, s14, s15, s16, s17⟩
               go_simp
               with_reducible rfl
              rotate_left
              ·simp only [Act.put, sA_, sB_, sC_, i64_w, i32_w]
               rfl
              refine take_ (i := 11) (N := some 54) (v := ?_) (a' := ?_) #[true, true, true, true, true, true, true, true, true, true, true, true, true, true, true, false, true, true, true, false, true, true, true, false, false, false, false, false] rfl rfl (take_ofW HT_.out HW_.out (by kernel_rfl)) (fun _ _ _ h => h) (Or.inl ⟨by rfl, ?_⟩) hHeld ?_ ?_
              rotate_left
              ·rintro w' ⟨s0, s1, s2, s3, s4, s5, s6, s7, s8, s9, s10, s11, s12, s13, s14, s15, s16, s17⟩
               go_simp
               with_reducible rfl
              rotate_left
              ·simp only [Act.put, sA_, sB_, sC_, i64_w, i32_w]
               rfl
              refine take_ (i := 15) (N := some 58) (v := ?_) (a' := ?_) #[true, true, true, true, true, true, true, true, true, true, true, true, true, true, true, true, true, true, true, false, true, true, true, false, false, false, false, false] rfl rfl (take_ofW HT_.out HW_.out (by kernel_rfl)) (fun _ _ _ h => h) (Or.inl ⟨by rfl, ?_⟩) hHeld ?_ ?_
              rotate_left
              ·rintro w' ⟨s0, s1, s2, s3, s4, s5, s6, s7, s8, s9, s10, s11, s12, s13, s14, s15, s16, s17⟩
               go_simp
               with_reducible rfl
              rotate_left
              ·simp only [Act.put, sA_, sB_, sC_, i64_w, i32_w]
               rfl
              refine take_ (i := 19) (N := some 62) (v := ?_) (a' := ?_) #[true, true, true, true, true, true, true, true, true, true, true, true, true, true, true, true, true, true, true, true, true, true, true, false, false, false, false, false] rfl rfl (take_ofW HT_.out HW_.out (by kernel_rfl)) (fun _ _ _ h => h) (Or.inl ⟨by rfl, ?_⟩) hHeld ?_ ?_
              rotate_left
              ·rintro w' ⟨s0, s1, s2, s3, s4, s5, s6, s7, s8, s9, s10, s11, s12, s13, s14, s15, s16, s17⟩
               go_simp
               with_reducible rfl
              rotate_left
              ·simp only [Act.put, sA_, sB_, sC_, i64_w, i32_w]
               rfl
              refine take_ (i := 23) (N := some 66) (v := ?_) (a' := ?_) #[true, true, true, true, true, true, true, true, true, true, true, true, true, true, true, true, true, true, true, true, true, true, true, true, false, false, false, false] rfl rfl (take_ofW HT_.out HW_.out (by kernel_rfl)) (fun _ _ _ h => h) (Or.inl ⟨by rfl, ?_⟩) hHeld ?_ ?_
              rotate_left
              ·rintro w' ⟨s0, s1, s2, s3, s4, s5, s6, s7, s8, s9, s10, s11, s12, s13, s14, s15, s16, s17⟩
               go_simp
               with_reducible rfl
              rotate_left
              ·simp only [Act.put, sA_, sB_, sC_, i64_w, i32_w]
               rfl
              refine pure_ (i := 24) (N := some 67) (v := ?_) (a' := ?_) #[true, true, true, true, true, true, true, true, true, true, true, true, true, true, true, true, true, true, true, true, true, true, true, true, true, false, false, false] rfl rfl (any_of HT_.out (by kernel_rfl)) (fun _ _ _ h => h) (Or.inl ⟨by rfl, ?_⟩) ?_ ?_
              rotate_left
              ·intro w'
               go_simp
               with_reducible rfl
              rotate_left
              ·simp only [Act.put, sA_, sB_, sC_, i64_w, i32_w]
               rfl
              refine pure_ (i := 25) (N := some 68) (v := ?_) (a' := ?_) #[true, true, true, true, true, true, true, true, true, true, true, true, true, true, true, true, true, true, true, true, true, true, true, true, true, true, false, false] rfl rfl (any_of HT_.out (by kernel_rfl)) (fun _ _ _ h => h) (Or.inl ⟨by rfl, ?_⟩) ?_ ?_
              rotate_left
              ·intro w'
               go_simp
               with_reducible rfl
              rotate_left
              ·simp only [Act.put, sA_, sB_, sC_, i64_w, i32_w]
               rfl
              refine one_ (i := 26) (N := some 8) #[true, true, true, true, true, true, true, true, true, true, true, true, true, true, true, true, true, true, true, true, true, true, true, true, true, true, true, false] rfl rfl (one_of HT_.out (by kernel_rfl)) (by decide) (fun K hK => ?_)
              refine box_step ?hg (N := 8) ?hd (cs := #[.int .i64 0, .int .i64 0, .int .i64 0, .string (⟨#[]⟩ : ByteArray), .int .i64 0, .bool false]) (t := 28) ?hr ?_; (case hd => rfl); (case hg => rfl); (case hr => first | (go_simp; done) | (go_simp; rfl))
              intro gb325 hg w62 hbox hb
              have HS0_ := (hb.cell (World.block_lt_of_cell? _ _ (hHeld.1))).trans (hHeld.1)
              have HS1_ := (hb.cell (World.block_lt_of_cell? _ _ (hHeld.2.1))).trans (hHeld.2.1)
              have HS2_ := (hb.cell (World.block_lt_of_cell? _ _ (hHeld.2.2.1))).trans (hHeld.2.2.1)
              have HS3_ := (hb.cell (World.block_lt_of_cell? _ _ (hHeld.2.2.2.1))).trans (hHeld.2.2.2.1)
              have HS4_ := (hb.cell (World.block_lt_of_cell? _ _ (hHeld.2.2.2.2.1))).trans (hHeld.2.2.2.2.1)
              have HS5_ := (hb.cell (World.block_lt_of_cell? _ _ (hHeld.2.2.2.2.2.1))).trans (hHeld.2.2.2.2.2.1)
              have HS6_ := (hb.cell (World.block_lt_of_cell? _ _ (hHeld.2.2.2.2.2.2.1))).trans (hHeld.2.2.2.2.2.2.1)
              have HS7_ := (hb.cell (World.block_lt_of_cell? _ _ (hHeld.2.2.2.2.2.2.2.1))).trans (hHeld.2.2.2.2.2.2.2.1)
              have HS8_ := (hb.cell (World.block_lt_of_cell? _ _ (hHeld.2.2.2.2.2.2.2.2.1))).trans (hHeld.2.2.2.2.2.2.2.2.1)
              have HS9_ := (hb.cell (World.block_lt_of_cell? _ _ (hHeld.2.2.2.2.2.2.2.2.2.1))).trans (hHeld.2.2.2.2.2.2.2.2.2.1)
              have HS10_ := (hb.cell (World.block_lt_of_cell? _ _ (hHeld.2.2.2.2.2.2.2.2.2.2.1))).trans (hHeld.2.2.2.2.2.2.2.2.2.2.1)
              have HS11_ := (hb.cell (World.block_lt_of_cell? _ _ (hHeld.2.2.2.2.2.2.2.2.2.2.2.1))).trans (hHeld.2.2.2.2.2.2.2.2.2.2.2.1)
              have HS12_ := (hb.cell (World.block_lt_of_cell? _ _ (hHeld.2.2.2.2.2.2.2.2.2.2.2.2.1))).trans (hHeld.2.2.2.2.2.2.2.2.2.2.2.2.1)
              have HS13_ := (hb.cell (World.block_lt_of_cell? _ _ (hHeld.2.2.2.2.2.2.2.2.2.2.2.2.2.1))).trans (hHeld.2.2.2.2.2.2.2.2.2.2.2.2.2.1)
              have HS14_ := (hb.cell (World.block_lt_of_cell? _ _ (hHeld.2.2.2.2.2.2.2.2.2.2.2.2.2.2.1))).trans (hHeld.2.2.2.2.2.2.2.2.2.2.2.2.2.2.1)
              have HS15_ := (hb.cell (World.block_lt_of_cell? _ _ (hHeld.2.2.2.2.2.2.2.2.2.2.2.2.2.2.2.1))).trans (hHeld.2.2.2.2.2.2.2.2.2.2.2.2.2.2.2.1)
              have HS16_ := (hb.cell (World.block_lt_of_cell? _ _ (hHeld.2.2.2.2.2.2.2.2.2.2.2.2.2.2.2.2.1))).trans (hHeld.2.2.2.2.2.2.2.2.2.2.2.2.2.2.2.2.1)
              have HS17_ := (hb.cell (World.block_lt_of_cell? _ _ (hHeld.2.2.2.2.2.2.2.2.2.2.2.2.2.2.2.2.2))).trans (hHeld.2.2.2.2.2.2.2.2.2.2.2.2.2.2.2.2.2)
              have n0_ := Aside0.mk (Kd.R_below kz6_11 hb)
              have n1_ := Aside0.mk (blk_below (g := gb308) (o := .cells #[.int .i64 0, .int .i64 0, .int .i64 0, .string (⟨#[]⟩ : ByteArray), .int .i64 0, .bool false] 28 (0, 0)) kz6_5 hb)
              have n2_ := Aside0.mk (below_step kz6_3 hb)
              have n3_ := Aside0.mk (hbox)
              have n4_ := Aside0.mk ((by rw [hg]; exact (below_size kz6_3) : w.heap.size ≤ gb325))
              have n5_ := Aside0.mk ((by rw [hg]; exact (below_size kz6_3) : w.heap.size ≤ gb325))
              have n6_ := Aside0.mk ((by rw [hg]; exact Nat.ne_of_lt (blk_lt (g := gb308) (o := .cells #[.int .i64 0, .int .i64 0, .int .i64 0, .string (⟨#[]⟩ : ByteArray), .int .i64 0, .bool false] 28 (0, 0)) kz6_5) : gb308 ≠ gb325))
              have n7_ := Aside0.mk ((by rw [hg]; exact Nat.ne_of_gt (blk_lt (g := gb308) (o := .cells #[.int .i64 0, .int .i64 0, .int .i64 0, .string (⟨#[]⟩ : ByteArray), .int .i64 0, .bool false] 28 (0, 0)) kz6_5) : gb325 ≠ gb308))
              clear HO_7
              clear BK308
              clear HB
              have HO_7 := n0_
              have BK308 := n1_
              have HB := n2_
              have BK325 := n3_
              have GW325 := n4_
              have GE325 := n5_
              have NB308_325 := n6_
              have NB325_308 := n7_
              clear n0_ n1_ n2_ n3_ n4_ n5_ n6_ n7_
              clear hb hbox hg
              refine hK.out _ _ ⟨HS0_, HS1_, HS2_, HS3_, HS4_, HS5_, HS6_, HS7_, HS8_, HS9_, HS10_, HS11_, HS12_, HS13_, HS14_, HS15_, HS16_, HS17_⟩ (fun hHeld => ?_)
              clear hK K
              refine norm_ (a' := ?_) ?_ ?_
              rotate_left
              ·show Act.put _ (some 8) _ = _
               simp only [Act.put, sA_, sB_, sC_, i64_w, i32_w]
               rfl
              refine one_ (i := 27) (N := none) #[true, true, true, true, true, true, true, true, true, true, true, true, true, true, true, true, true, true, true, true, true, true, true, true, true, true, true, true] rfl rfl (one_of HT_.out (by kernel_rfl)) (by decide) (fun K hK => ?_)
              have hs63 : w62.cell? ⟨gb325, 0, none⟩ = some (.int .i64 0) := (blk_cell BK325.out 0).trans rfl
              have hfs63 := blk_frozen BK325.out 0
              have hns63_0 := NB308_325.out
              have hms63_0 := NB325_308.out
              have hs64 : w62.cell? ⟨gb325, 1, none⟩ = some (.int .i64 0) := (blk_cell BK325.out 1).trans rfl
              have hfs64 := blk_frozen BK325.out 1
              have hns64_0 := NB308_325.out
              have hms64_0 := NB325_308.out
              have hs65 : w62.cell? ⟨gb325, 2, none⟩ = some (.int .i64 0) := (blk_cell BK325.out 2).trans rfl
              have hfs65 := blk_frozen BK325.out 2
              have hns65_0 := NB308_325.out
              have hms65_0 := NB325_308.out
              have hs66 : w62.cell? ⟨gb325, 3, none⟩ = some (.string (⟨#[]⟩ : ByteArray)) := (blk_cell BK325.out 3).trans rfl
              have hfs66 := blk_frozen BK325.out 3
              have hns66_0 := NB308_325.out
              have hms66_0 := NB325_308.out
              have hs67 : w62.cell? ⟨gb325, 4, none⟩ = some (.int .i64 0) := (blk_cell BK325.out 4).trans rfl
              have hfs67 := blk_frozen BK325.out 4
              have hns67_0 := NB308_325.out
              have hms67_0 := NB325_308.out
              have hs68 : w62.cell? ⟨gb325, 5, none⟩ = some (.bool false) := (blk_cell BK325.out 5).trans rfl
              have hfs68 := blk_frozen BK325.out 5
              have hns68_0 := NB308_325.out
              have hms68_0 := NB325_308.out
              refine skip_ (w1 := ?_) (by rfl) rfl ?_ ?_
              rotate_left
              ·go_simp
               rfl
              have hown_ : ad319.block ≠ gb325 := kz6_9
              refine hK.out _ _ ?hS_ (fun hHeld => ?_)
              case hS_ => exact ⟨cell_far6 hown_ hHeld.1, cell_far6 hown_ hHeld.2.1, cell_far6 hown_ hHeld.2.2.1, cell_far6 hown_ hHeld.2.2.2.1, cell_far6 hown_ hHeld.2.2.2.2.1, cell_far6 hown_ hHeld.2.2.2.2.2.1, cell_far6 hown_ hHeld.2.2.2.2.2.2.1, cell_far6 hown_ hHeld.2.2.2.2.2.2.2.1, cell_far6 hown_ hHeld.2.2.2.2.2.2.2.2.1, cell_far6 hown_ hHeld.2.2.2.2.2.2.2.2.2.1, cell_far6 hown_ hHeld.2.2.2.2.2.2.2.2.2.2.1, cell_far6 hown_ hHeld.2.2.2.2.2.2.2.2.2.2.2.1, cell_far6 hown_ hHeld.2.2.2.2.2.2.2.2.2.2.2.2.1, cell_far6 hown_ hHeld.2.2.2.2.2.2.2.2.2.2.2.2.2.1, cell_far6 hown_ hHeld.2.2.2.2.2.2.2.2.2.2.2.2.2.2.1, cell_far6 hown_ hHeld.2.2.2.2.2.2.2.2.2.2.2.2.2.2.2.1, cell_far6 hown_ hHeld.2.2.2.2.2.2.2.2.2.2.2.2.2.2.2.2.1, cell_far6 hown_ hHeld.2.2.2.2.2.2.2.2.2.2.2.2.2.2.2.2.2⟩
              clear hown_
              clear hK K
              refine done_ (done_of HT_.out (by kernel_rfl)) ?_
              have hnb69 := NB325_308.out
              have hnc69 := NB308_325.out
              have hcz70_0 : w62.cell? ⟨gb325, 0, none⟩ = some (.int .i64 0) := (blk_cell BK325.out 0).trans rfl
              have hcz70_1 : w62.cell? ⟨gb325, 1, none⟩ = some (.int .i64 0) := (blk_cell BK325.out 1).trans rfl
              have hcz70_2 : w62.cell? ⟨gb325, 2, none⟩ = some (.int .i64 0) := (blk_cell BK325.out 2).trans rfl
              have hcz70_3 : w62.cell? ⟨gb325, 3, none⟩ = some (.string (⟨#[]⟩ : ByteArray)) := (blk_cell BK325.out 3).trans rfl
              have hcz70_4 : w62.cell? ⟨gb325, 4, none⟩ = some (.int .i64 0) := (blk_cell BK325.out 4).trans rfl
              have hcz70_5 : w62.cell? ⟨gb325, 5, none⟩ = some (.bool false) := (blk_cell BK325.out 5).trans rfl
              have hfz70_0 := blk_frozen BK325.out 0
              have hfz70_1 := blk_frozen BK325.out 1
              have hfz70_2 := blk_frozen BK325.out 2
              have hfz70_3 := blk_frozen BK325.out 3
              have hfz70_4 := blk_frozen BK325.out 4
              have hfz70_5 := blk_frozen BK325.out 5
              try go_wp2_with (first | ((with_reducible refine gate_callee (f := 34) rfl ?_); refine goesL_ (some 71) rfl rfl Try.func34 (by kernel_rfl) rfl #[.agg #[.int .i64 ((rd_T112 t314 0).f1), .int .i64 ((rd_T112 t314 1).f1), .int .i64 ((rd_T112 t314 2).f1), .string ((rd_T112 t314 3).f2), .int .i64 ((rd_T112 t314 4).f1), .bool (((rd_T112 t314 5).f1) == 1)]] rfl kz6_10 ?_; (with_reducible refine (outbox_Encode.calls kj9 ((rd_T112 t314 0).f1) ((rd_T112 t314 1).f1) ((rd_T112 t314 2).f1) ((rd_T112 t314 3).f2) ((rd_T112 t314 4).f1) (((rd_T112 t314 5).f1) == 1) t326 t329 _ A27.out).mono ?_); rintro e w71 ⟨v327, rfl, ho0, hb⟩; refine ⟨_, rfl, ?_⟩; have n0_ := Aside0.mk (Kd.R_below kz6_6 hb); have n1_ := Aside0.mk (Kd.R_lower ho0 (below_size kz6_7)); have n2_ := Aside0.mk (blk_below (g := gb308) (o := .cells #[.int .i64 0, .int .i64 0, .int .i64 0, .string (⟨#[]⟩ : ByteArray), .int .i64 0, .bool false] 28 (0, 0)) kz6_4 hb); have n3_ := Aside0.mk (blk_below (g := gb325) (o := .cells #[.int .i64 ((rd_T112 t314 0).f1), .int .i64 ((rd_T112 t314 1).f1), .int .i64 ((rd_T112 t314 2).f1), .string ((rd_T112 t314 3).f2), .int .i64 ((rd_T112 t314 4).f1), .bool (((rd_T112 t314 5).f1) == 1)] 28 (0, 0)) kz6_2 hb); have n4_ := Aside0.mk (below_step kz6_7 hb); clear HO_7; clear BK308; clear BK325; clear HB; have HO_7 := n0_; have HO328 := n1_; have BK308 := n2_; have BK325 := n3_; have HB := n4_; clear n0_ n1_ n2_ n3_ n4_; (try clear hb); (try clear hb2); (try clear hk); (try clear hi); (try clear ho0); have hcz72_0 : w71.cell? ⟨gb308, 0, none⟩ = some (.int .i64 0) := (blk_cell BK308.out 0).trans rfl; have hcz72_1 : w71.cell? ⟨gb308, 1, none⟩ = some (.int .i64 0) := (blk_cell BK308.out 1).trans rfl; have hcz72_2 : w71.cell? ⟨gb308, 2, none⟩ = some (.int .i64 0) := (blk_cell BK308.out 2).trans rfl; have hcz72_3 : w71.cell? ⟨gb308, 3, none⟩ = some (.string (⟨#[]⟩ : ByteArray)) := (blk_cell BK308.out 3).trans rfl; have hcz72_4 : w71.cell? ⟨gb308, 4, none⟩ = some (.int .i64 0) := (blk_cell BK308.out 4).trans rfl; have hcz72_5 : w71.cell? ⟨gb308, 5, none⟩ = some (.bool false) := (blk_cell BK308.out 5).trans rfl; have hfz72_0 := blk_frozen BK308.out 0; have hfz72_1 := blk_frozen BK308.out 1; have hfz72_2 := blk_frozen BK308.out 2; have hfz72_3 := blk_frozen BK308.out 3; have hfz72_4 := blk_frozen BK308.out 4; have hfz72_5 := blk_frozen BK308.out 5))
              refine bodyPost_ret (results_ct rfl _ _ gb308 28 #[.int .i64 0, .int .i64 0, .int .i64 0, .string (⟨#[]⟩ : ByteArray), .int .i64 0, .bool false] (0, 0) _ rfl kz6_1 Try.underlying28 rfl (by kernel_rfl)) rfl ?_
              exact ⟨by first | rfl | (simp [errW_none, errW_some] <;> rfl) | (simp [*, errW_none, errW_some] <;> rfl), by repeat (first | (with_reducible first | exact HB.out | apply below_alloc | apply pw_below_drewN | apply below_drew1 | refine below_set ?_ GE308.out | refine below_set ?_ GE325.out) | exact HB.out)⟩
            ·rw [if_neg c26] at H
             exact absurd H (by simp)
           ·rw [if_neg c25] at H
            exact absurd H (by simp)
          ·rw [if_neg c24] at H
           exact absurd H (by simp)
         ·rw [if_neg c23] at H
          exact absurd H (by simp)
        ·rw [if_neg c22] at H
         exact absurd H (by simp)
       ·rw [if_neg c21] at H
        exact absurd H (by simp)

end Go.Proofs.Ytdglbiafpofeeaa.POutboxTurned
