-- Written by fprint.py (wip), by way of the printer's functions; where they are turned, by texts of mine.
import Derived.Test.YtdglbiafpofeeaaPOutboxDecodesx0
import Derived.Test.YtdglbiafpofeeaaPOutboxDecodesx8
import Derived.Test.YtdglbiafpofeeaaPOutboxDecodesx9
import Derived.Test.YtdglbiafpofeeaaPOutboxDecodesx12
namespace Go.Proofs.Ytdglbiafpofeeaa.POutboxDecodes
open Go.RowKit Go.Proofs.YtdglbiafpofeeaaW.PrintWords Go.Proofs.YtdglbiafpofeeaaW.PrintLast Go.Proofs.YtdglbiafpofeeaaW.PrintMore
attribute [local go_sem] max2_int min2_int max_two min_two max_three min_three max_four min_four   -- for this text's walks alone
set_option linter.unusedVariables false
set_option linter.unusedSimpArgs false
theorem kz13_1 {p_ : Prop} (h_ : p_ := by (with_reducible repeat (first | refine blk_drewN ?_ _ | refine blk_drew ?_ | refine blk_alloc ?_ _)); refine blk_put (cs := #[.int .i64 0, .int .i64 0, .int .i64 0, .string (⟨#[]⟩ : ByteArray), .int .i64 0, .bool x444005_3]) ?_ 5 _ rfl; (with_reducible repeat (first | refine blk_drewN ?_ _ | refine blk_drew ?_ | refine blk_alloc ?_ _)); refine blk_put (cs := #[.int .i64 0, .int .i64 0, .int .i64 0, .string (⟨#[]⟩ : ByteArray), .int .i64 x444004_3, .bool x444005_3]) ?_ 4 _ rfl; (with_reducible repeat (first | refine blk_drewN ?_ _ | refine blk_drew ?_ | refine blk_alloc ?_ _)); refine blk_put (cs := #[.int .i64 0, .int .i64 0, .int .i64 0, .string x444003_3, .int .i64 x444004_3, .bool x444005_3]) ?_ 3 _ rfl; (with_reducible repeat (first | refine blk_drewN ?_ _ | refine blk_drew ?_ | refine blk_alloc ?_ _)); refine blk_put (cs := #[.int .i64 0, .int .i64 0, .int .i64 x444002_3, .string x444003_3, .int .i64 x444004_3, .bool x444005_3]) ?_ 2 _ rfl; (with_reducible repeat (first | refine blk_drewN ?_ _ | refine blk_drew ?_ | refine blk_alloc ?_ _)); refine blk_put (cs := #[.int .i64 0, .int .i64 x444001_3, .int .i64 x444002_3, .string x444003_3, .int .i64 x444004_3, .bool x444005_3]) ?_ 1 _ rfl; (with_reducible repeat (first | refine blk_drewN ?_ _ | refine blk_drew ?_ | refine blk_alloc ?_ _)); refine blk_put (cs := #[.int .i64 x444000_3, .int .i64 x444001_3, .int .i64 x444002_3, .string x444003_3, .int .i64 x444004_3, .bool x444005_3]) ?_ 0 _ rfl; (with_reducible repeat (first | refine blk_drewN ?_ _ | refine blk_drew ?_ | refine blk_alloc ?_ _)); exact BK443.out) : p_ := h_
theorem kz13_2 {p_ : Prop} (h_ : p_ := by repeat (first | (with_reducible first | exact HB.out | apply below_alloc | apply pw_below_drewN | apply below_drew1 | refine below_set ?_ GE443.out) | exact HB.out)) : p_ := h_
theorem kz13_3 {p_ : Prop} (h_ : p_ := by (with_reducible repeat (first | refine blk_drewN ?_ _ | refine blk_drew ?_ | refine blk_alloc ?_ _)); refine blk_put (cs := #[.int .i64 ((rd_T117 t449 0).f1), .int .i64 ((rd_T117 t449 1).f1), .int .i64 ((rd_T117 t449 2).f1), .string ((rd_T117 t449 3).f2), .int .i64 ((rd_T117 t449 4).f1), .bool false]) ?_ 5 _ rfl; (with_reducible repeat (first | refine blk_drewN ?_ _ | refine blk_drew ?_ | refine blk_alloc ?_ _)); refine blk_put (cs := #[.int .i64 ((rd_T117 t449 0).f1), .int .i64 ((rd_T117 t449 1).f1), .int .i64 ((rd_T117 t449 2).f1), .string ((rd_T117 t449 3).f2), .int .i64 0, .bool false]) ?_ 4 _ rfl; (with_reducible repeat (first | refine blk_drewN ?_ _ | refine blk_drew ?_ | refine blk_alloc ?_ _)); refine blk_put (cs := #[.int .i64 ((rd_T117 t449 0).f1), .int .i64 ((rd_T117 t449 1).f1), .int .i64 ((rd_T117 t449 2).f1), .string (⟨#[]⟩ : ByteArray), .int .i64 0, .bool false]) ?_ 3 _ rfl; (with_reducible repeat (first | refine blk_drewN ?_ _ | refine blk_drew ?_ | refine blk_alloc ?_ _)); refine blk_put (cs := #[.int .i64 ((rd_T117 t449 0).f1), .int .i64 ((rd_T117 t449 1).f1), .int .i64 0, .string (⟨#[]⟩ : ByteArray), .int .i64 0, .bool false]) ?_ 2 _ rfl; (with_reducible repeat (first | refine blk_drewN ?_ _ | refine blk_drew ?_ | refine blk_alloc ?_ _)); refine blk_put (cs := #[.int .i64 ((rd_T117 t449 0).f1), .int .i64 0, .int .i64 0, .string (⟨#[]⟩ : ByteArray), .int .i64 0, .bool false]) ?_ 1 _ rfl; (with_reducible repeat (first | refine blk_drewN ?_ _ | refine blk_drew ?_ | refine blk_alloc ?_ _)); refine blk_put (cs := #[.int .i64 0, .int .i64 0, .int .i64 0, .string (⟨#[]⟩ : ByteArray), .int .i64 0, .bool false]) ?_ 0 _ rfl; (with_reducible repeat (first | refine blk_drewN ?_ _ | refine blk_drew ?_ | refine blk_alloc ?_ _)); exact BK462.out) : p_ := h_
theorem kz13_4 {p_ : Prop} (h_ : p_ := by first | (with_reducible assumption) | assumption) : p_ := h_
theorem kz13_5 {p_ : Prop} (h_ : p_ := by (with_reducible repeat (first | refine blk_drewN ?_ _ | refine blk_drew ?_ | refine blk_alloc ?_ _)); refine blk_put (cs := #[.int .i64 0, .int .i64 0, .int .i64 0, .string (⟨#[]⟩ : ByteArray), .int .i64 0, .bool false]) ?_ 5 _ rfl; (with_reducible repeat (first | refine blk_drewN ?_ _ | refine blk_drew ?_ | refine blk_alloc ?_ _)); refine blk_put (cs := #[.int .i64 0, .int .i64 0, .int .i64 0, .string (⟨#[]⟩ : ByteArray), .int .i64 0, .bool false]) ?_ 4 _ rfl; (with_reducible repeat (first | refine blk_drewN ?_ _ | refine blk_drew ?_ | refine blk_alloc ?_ _)); refine blk_put (cs := #[.int .i64 0, .int .i64 0, .int .i64 0, .string (⟨#[]⟩ : ByteArray), .int .i64 0, .bool false]) ?_ 3 _ rfl; (with_reducible repeat (first | refine blk_drewN ?_ _ | refine blk_drew ?_ | refine blk_alloc ?_ _)); refine blk_put (cs := #[.int .i64 0, .int .i64 0, .int .i64 0, .string (⟨#[]⟩ : ByteArray), .int .i64 0, .bool false]) ?_ 2 _ rfl; (with_reducible repeat (first | refine blk_drewN ?_ _ | refine blk_drew ?_ | refine blk_alloc ?_ _)); refine blk_put (cs := #[.int .i64 0, .int .i64 0, .int .i64 0, .string (⟨#[]⟩ : ByteArray), .int .i64 0, .bool false]) ?_ 1 _ rfl; (with_reducible repeat (first | refine blk_drewN ?_ _ | refine blk_drew ?_ | refine blk_alloc ?_ _)); refine blk_put (cs := #[.int .i64 0, .int .i64 0, .int .i64 0, .string (⟨#[]⟩ : ByteArray), .int .i64 0, .bool false]) ?_ 0 _ rfl; (with_reducible repeat (first | refine blk_drewN ?_ _ | refine blk_drew ?_ | refine blk_alloc ?_ _)); exact BK443.out) : p_ := h_
theorem kz13_6 {p_ : Prop} (h_ : p_ := by (with_reducible repeat (first | refine blk_drewN ?_ _ | refine blk_drew ?_ | refine blk_alloc ?_ _)); exact BK443.out) : p_ := h_
theorem kz13_7 {p_ : Prop} (h_ : p_ := by first | (rw [add_block]; exact hn463_5) | (show (Addr.add _ _).block ≠ _; rw [add_block]; exact hn463_5) | exact hn463_5) : p_ := h_
theorem kz13_8 {p_ : Prop} (h_ : p_ := by first | (rw [add_block]; exact hn463_4) | (show (Addr.add _ _).block ≠ _; rw [add_block]; exact hn463_4) | exact hn463_4) : p_ := h_
theorem kz13_9 {p_ : Prop} (h_ : p_ := by first | (rw [add_block]; exact hn463_3) | (show (Addr.add _ _).block ≠ _; rw [add_block]; exact hn463_3) | exact hn463_3) : p_ := h_
theorem kz13_10 {p_ : Prop} (h_ : p_ := by first | (rw [add_block]; exact hn463_2) | (show (Addr.add _ _).block ≠ _; rw [add_block]; exact hn463_2) | exact hn463_2) : p_ := h_
theorem kz13_11 {p_ : Prop} (h_ : p_ := by first | (rw [add_block]; exact hn463_1) | (show (Addr.add _ _).block ≠ _; rw [add_block]; exact hn463_1) | exact hn463_1) : p_ := h_
theorem kz13_12 {p_ : Prop} (h_ : p_ := by first | (rw [add_block]; exact hn463_0) | (show (Addr.add _ _).block ≠ _; rw [add_block]; exact hn463_0) | exact hn463_0) : p_ := h_
theorem kz13_13 {p_ : Prop} (h_ : p_ := by (with_reducible repeat (first | refine blk_drewN ?_ _ | refine blk_drew ?_ | refine blk_alloc ?_ _)); refine blk_far ?_ NB443_462.out _; (with_reducible repeat (first | refine blk_drewN ?_ _ | refine blk_drew ?_ | refine blk_alloc ?_ _)); refine blk_far ?_ NB443_462.out _; (with_reducible repeat (first | refine blk_drewN ?_ _ | refine blk_drew ?_ | refine blk_alloc ?_ _)); refine blk_far ?_ NB443_462.out _; (with_reducible repeat (first | refine blk_drewN ?_ _ | refine blk_drew ?_ | refine blk_alloc ?_ _)); refine blk_far ?_ NB443_462.out _; (with_reducible repeat (first | refine blk_drewN ?_ _ | refine blk_drew ?_ | refine blk_alloc ?_ _)); refine blk_far ?_ NB443_462.out _; (with_reducible repeat (first | refine blk_drewN ?_ _ | refine blk_drew ?_ | refine blk_alloc ?_ _)); refine blk_far ?_ NB443_462.out _; (with_reducible repeat (first | refine blk_drewN ?_ _ | refine blk_drew ?_ | refine blk_alloc ?_ _)); exact BK443.out) : p_ := h_
theorem kz13_14 {p_ : Prop} (h_ : p_ := by (with_reducible repeat (first | apply Kd.R_alloc | apply Kd.R_drewN | apply Kd.R_drew)); exact (Kd.R_mono (Kd.R_far (p := ⟨gb462, 5, none⟩) (Kd.R_far (p := ⟨gb462, 4, none⟩) (Kd.R_far (p := ⟨gb462, 3, none⟩) (Kd.R_far (p := ⟨gb462, 2, none⟩) (Kd.R_far (p := ⟨gb462, 1, none⟩) (Kd.R_far (p := ⟨gb462, 0, none⟩) (Kd.R_types HO_7.out BK462.out (by decide)) (fun _ hk => hk.2) (.int .i64 ((rd_T117 t449 0).f1))) (fun _ hk => hk.2) (.int .i64 ((rd_T117 t449 1).f1))) (fun _ hk => hk.2) (.int .i64 ((rd_T117 t449 2).f1))) (fun _ hk => hk.2) (.string ((rd_T117 t449 3).f2))) (fun _ hk => hk.2) (.int .i64 ((rd_T117 t449 4).f1))) (fun _ hk => hk.2) (.bool (((rd_T117 t449 5).f1) == 1))) (fun _ h_ => h_.1))) : p_ := h_
theorem kz13_15 {p_ : Prop} (h_ : p_ := by first | exact Kd.own_blk (Kd.R_ne HO_7.out BK462.out (by decide)) | (rw [add_block]; exact Kd.own_blk (Kd.R_ne HO_7.out BK462.out (by decide))) | (show (Addr.add _ _).block ≠ _; rw [add_block]; exact Kd.own_blk (Kd.R_ne HO_7.out BK462.out (by decide))) | (dsimp only; exact Kd.own_blk (Kd.R_ne HO_7.out BK462.out (by decide)))) : p_ := h_
theorem kz13_16 {p_ : Prop} (h_ : p_ := by repeat (first | (with_reducible first | exact HB.out | apply below_alloc | apply pw_below_drewN | apply below_drew1) | exact HB.out)) : p_ := h_
theorem kz13_17 {p_ : Prop} (h_ : p_ := by first | rfl | (simp; done) | (simp [*]; done)) : p_ := h_
theorem kz13_18 {p_ : Prop} (h_ : p_ := by (with_reducible repeat (first | apply Kd.R_alloc | apply Kd.R_drewN | apply Kd.R_drew)); exact HO_7.out) : p_ := h_

/-! ### tumbrelref18_Decode: function 39 -/
mutual
def tumbrelref18_Decode.j0 : Nat → List Int → Bool → Option (Int × Int × Int × ByteArray × Int × Bool × Int)
 | 0, _, _ => none
 | k + 1, x4, x23 => if x23 = true then (some (0, 0, 0, (⟨#[]⟩ : ByteArray), 0, false, 2)) else ((tumbrelref01_Read.f k x4).bind fun bt449 => (if bt449.2 = 0 then (tumbrelref18_Decode.j1 k bt449.1 ((bt449.1.length : Int) != 6)) else (tumbrelref18_Decode.j1 k bt449.1 true)))
def tumbrelref18_Decode.j1 : Nat → List (S117) → Bool → Option (Int × Int × Int × ByteArray × Int × Bool × Int)
 | 0, _, _ => none
 | k + 1, x7, x36 => if x36 = true then (some (0, 0, 0, (⟨#[]⟩ : ByteArray), 0, false, 2)) else (tumbrelref18_Decode.l0 k x7 (x7.length : Int) 0)
def tumbrelref18_Decode.l0 : Nat → List (S117) → Int → Int → Option (Int × Int × Int × ByteArray × Int × Bool × Int)
 | 0, _, _, _ => none
 | k + 1, x7, x39, x40 => if x40 < x39 then (if 0 ≤ x40 then (if x40 < (x7.length : Int) then (if (((rd_T117 x7 x40).f0) != (x40 == 3)) = true then (some (0, 0, 0, (⟨#[]⟩ : ByteArray), 0, false, 2)) else (if ((rd_T117 x7 x40).f1) < 0 then (some (0, 0, 0, (⟨#[]⟩ : ByteArray), 0, false, 2)) else (if ((rd_T117 x7 x40).f1) > 2147483647 then (some (0, 0, 0, (⟨#[]⟩ : ByteArray), 0, false, 2)) else (tumbrelref18_Decode.l0 k x7 x39 (wrap64 (x40 + 1)))))) else (none)) else (none)) else (if 0 < (x7.length : Int) then (if 1 < (x7.length : Int) then (if 2 < (x7.length : Int) then (if 3 < (x7.length : Int) then (if 4 < (x7.length : Int) then (if 5 < (x7.length : Int) then (if ((rd_T117 x7 5).f1) > 1 then (some (0, 0, 0, (⟨#[]⟩ : ByteArray), 0, false, 2)) else ((tumbrelref18_Formed.f ((rd_T117 x7 0).f1) ((rd_T117 x7 1).f1) ((rd_T117 x7 2).f1) ((rd_T117 x7 3).f2) ((rd_T117 x7 4).f1) (((rd_T117 x7 5).f1) == 1)).bind fun t464 => (if t464 = true then (some ((rd_T117 x7 0).f1, (rd_T117 x7 1).f1, (rd_T117 x7 2).f1, (rd_T117 x7 3).f2, (rd_T117 x7 4).f1, (((rd_T117 x7 5).f1) == 1), 0)) else (some (0, 0, 0, (⟨#[]⟩ : ByteArray), 0, false, 2))))) else (none)) else (none)) else (none)) else (none)) else (none)) else (none))
end
def tumbrelref18_Decode.f (k : Nat) (l0 : List Int) : Option (Int × Int × Int × ByteArray × Int × Bool × Int) := (tumbrelref01_Open.f k l0).bind fun bt444 => (if bt444.2.2 = 0 then (tumbrelref18_Decode.j0 k bt444.1 (bt444.2.1 != (l0.length : Int))) else (tumbrelref18_Decode.j0 k bt444.1 true))
theorem tumbrelref18_Decode.mono_l : ∀ k, (∀ y0 y1, LeO (tumbrelref18_Decode.j0 k y0 y1) (tumbrelref18_Decode.j0 (k + 1) y0 y1)) ∧ (∀ y0 y1, LeO (tumbrelref18_Decode.j1 k y0 y1) (tumbrelref18_Decode.j1 (k + 1) y0 y1)) ∧ (∀ y0 y1 y2, LeO (tumbrelref18_Decode.l0 k y0 y1 y2) (tumbrelref18_Decode.l0 (k + 1) y0 y1 y2))
 | 0 => ⟨fun _ _ r h => by simp [tumbrelref18_Decode.j0] at h, fun _ _ r h => by simp [tumbrelref18_Decode.j1] at h, fun _ _ _ r h => by simp [tumbrelref18_Decode.l0] at h⟩
 | k + 1 => by
  obtain ⟨ih0, ih1, ih2⟩ := tumbrelref18_Decode.mono_l k
  refine ⟨?_, ?_, ?_⟩
  ·intro y0 y1
   unfold tumbrelref18_Decode.j0
   repeat' first
   | (with_reducible exact ih0 _ _)
   | (with_reducible exact ih1 _ _)
   | (with_reducible exact ih2 _ _ _)
   | (with_reducible exact tumbrelref01_Open.mono _ _)
   | (with_reducible exact tumbrelref01_Read.mono _ _)
   | (with_reducible exact LeO.refl _)
   | (with_reducible exact LeO.none _)
   | (with_reducible refine LeO.ite ?_ ?_)
   | (with_reducible refine LeO.bind ?_ (fun _ => ?_))
   | exact ih0 _ _
   | exact ih1 _ _
   | exact ih2 _ _ _
   | exact tumbrelref01_Open.mono _ _
   | exact tumbrelref01_Read.mono _ _
   | exact LeO.none _
   | refine LeO.ite ?_ ?_
   | refine LeO.bind ?_ (fun _ => ?_)
  ·intro y0 y1
   unfold tumbrelref18_Decode.j1
   repeat' first
   | (with_reducible exact ih0 _ _)
   | (with_reducible exact ih1 _ _)
   | (with_reducible exact ih2 _ _ _)
   | (with_reducible exact tumbrelref01_Open.mono _ _)
   | (with_reducible exact tumbrelref01_Read.mono _ _)
   | (with_reducible exact LeO.refl _)
   | (with_reducible exact LeO.none _)
   | (with_reducible refine LeO.ite ?_ ?_)
   | (with_reducible refine LeO.bind ?_ (fun _ => ?_))
   | exact ih0 _ _
   | exact ih1 _ _
   | exact ih2 _ _ _
   | exact tumbrelref01_Open.mono _ _
   | exact tumbrelref01_Read.mono _ _
   | exact LeO.none _
   | refine LeO.ite ?_ ?_
   | refine LeO.bind ?_ (fun _ => ?_)
  ·intro y0 y1 y2
   unfold tumbrelref18_Decode.l0
   repeat' first
   | (with_reducible exact ih0 _ _)
   | (with_reducible exact ih1 _ _)
   | (with_reducible exact ih2 _ _ _)
   | (with_reducible exact tumbrelref01_Open.mono _ _)
   | (with_reducible exact tumbrelref01_Read.mono _ _)
   | (with_reducible exact LeO.refl _)
   | (with_reducible exact LeO.none _)
   | (with_reducible refine LeO.ite ?_ ?_)
   | (with_reducible refine LeO.bind ?_ (fun _ => ?_))
   | exact ih0 _ _
   | exact ih1 _ _
   | exact ih2 _ _ _
   | exact tumbrelref01_Open.mono _ _
   | exact tumbrelref01_Read.mono _ _
   | exact LeO.none _
   | refine LeO.ite ?_ ?_
   | refine LeO.bind ?_ (fun _ => ?_)
theorem tumbrelref18_Decode.mono : ∀ a0 k, LeO (tumbrelref18_Decode.f k a0) (tumbrelref18_Decode.f (k + 1) a0) := by
 intro a0 k
 obtain ⟨ih0, ih1, ih2⟩ := tumbrelref18_Decode.mono_l k
 unfold tumbrelref18_Decode.f
 repeat' first
   | (with_reducible exact ih0 _ _)
   | (with_reducible exact ih1 _ _)
   | (with_reducible exact ih2 _ _ _)
   | (with_reducible exact tumbrelref01_Open.mono _ _)
   | (with_reducible exact tumbrelref01_Read.mono _ _)
   | (with_reducible exact LeO.refl _)
   | (with_reducible exact LeO.none _)
   | (with_reducible refine LeO.ite ?_ ?_)
   | (with_reducible refine LeO.bind ?_ (fun _ => ?_))
   | exact ih0 _ _
   | exact ih1 _ _
   | exact ih2 _ _ _
   | exact tumbrelref01_Open.mono _ _
   | exact tumbrelref01_Read.mono _ _
   | exact LeO.none _
   | refine LeO.ite ?_ ?_
   | refine LeO.bind ?_ (fun _ => ?_)
def tumbrelref18_Decode.T13 : Bool × List (List Nat × List Nat) := (true, [([], []), ([0], [0]), ([1], [1]), ([2], [2]), ([], []), ([4], [4]), ([5], [5]), ([6], [6]), ([], []), ([8], [8]), ([9], [9]), ([10], [10]), ([], []), ([12], [12]), ([13], [13]), ([14], [14]), ([], []), ([16], [16]), ([17], [17]), ([18], [18]), ([], []), ([20], [20]), ([21], [21]), ([22], [22]), ([23], [23]), ([3, 7, 11, 15, 19, 24], [3, 7, 11, 15, 19, 24]), ([], []), ([26, 25, 0, 1, 2, 3, 4, 5, 6, 7, 8, 9, 10, 11, 12, 13, 14, 15, 16, 17, 18, 19, 20, 21, 22, 23, 24, 25, 26], [25, 26])])
def tumbrelref18_Decode.B13 : List Nat := [0, 1, 3, 7, 0, 16, 48, 112, 0, 256, 768, 1792, 0, 4096, 12288, 28672, 0, 65536, 196608, 458752, 0, 1048576, 3145728, 7340032, 15728640, 33554431, 0, 134217727]
theorem tumbrelref18_Decode.tab13 : rtab .any (opsOf Try.f39 13) = tumbrelref18_Decode.T13 := by kernel_rfl
theorem tumbrelref18_Decode.bits13 : waitsOk tumbrelref18_Decode.T13.2 tumbrelref18_Decode.B13 = true := by kernel_rfl
set_option maxHeartbeats 8000000 in
set_option maxRecDepth 100000 in
theorem tumbrelref18_Decode.calls (k : Nat) (A0 : Option Addr) (c0 : Nat) (l0 : List Int) (r1 : Int) (r2 : Int) (r3 : Int) (r4 : ByteArray) (r5 : Int) (r6 : Bool) (r7 : Int) (w : World) (hr0 : Kd.C (Kd.int .u8) w A0 l0.length l0) (hc0 : l0.length ≤ c0) (h : tumbrelref18_Decode.f k l0 = some (r1, r2, r3, r4, r5, r6, r7)) :
  Calls Try.prog 39 #[.slice A0 l0.length c0] w fun e w' => e = .returned (.tuple #[.agg #[.int .i64 r1, .int .i64 r2, .int .i64 r3, .string r4, .int .i64 r5, .bool r6], .int .i64 r7]) ∧ Below w.heap.size w w' := by
 have hu28 := Try.underlying28
 have HR0 := Aside0.mk hr0
 have HC0 := Aside0.mk hc0
 clear hr0 hc0
 have HB := Aside0.mk (Below.refl w.heap.size w)
 have H : ((tumbrelref01_Open.f k l0).bind fun bt444 => (if bt444.2.2 = 0 then (tumbrelref18_Decode.j0 k bt444.1 (bt444.2.1 != (l0.length : Int))) else (tumbrelref18_Decode.j0 k bt444.1 true))) = some (r1, r2, r3, r4, r5, r6, r7) := h
 clear h
 replace H := Option.bind_eq_some_iff.mp H
 obtain ⟨⟨t444, t445, t446⟩, A20, H⟩ := H
 replace H : (if t446 = 0 then (tumbrelref18_Decode.j0 k t444 (t445 != (l0.length : Int))) else (tumbrelref18_Decode.j0 k t444 true)) = some (r1, r2, r3, r4, r5, r6, r7) := H
 have A2 := Aside0.mk A20
 clear A20
 have HC3 := Aside0.mk H
 clear H
 go_enter Try.func39, Try.ntmps39
 go_upto_region 2 with (first | ((with_reducible refine gate_dst (N := 2) rfl ?_); (try (refine gate_guard (by rfl) ?_; dsimp only)); refine box_event ?hg (N := 2) ?hd (cs := #[.int .i64 0, .int .i64 0, .int .i64 0, .string (⟨#[]⟩ : ByteArray), .int .i64 0, .bool false]) (t := 28) ?hr ?_; (case hd => rfl); (case hg => rfl); (case hr => first | (go_simp; done) | (go_simp; rfl)); intro gb443 hg w4 hbox hb; have n0_ := Aside0.mk (below_step kz13_16 hb); have n1_ := Aside0.mk (hbox); have n2_ := Aside0.mk ((by rw [hg]; exact (below_size kz13_16) : w.heap.size ≤ gb443)); have n3_ := Aside0.mk ((by rw [hg]; exact (below_size kz13_16) : w.heap.size ≤ gb443)); clear HB; have HB := n0_; have BK443 := n1_; have GW443 := n2_; have GE443 := n3_; clear n0_ n1_ n2_ n3_; clear hb hbox hg) | ((with_reducible refine gate_callee (f := 64) rfl ?_); refine goesL_ (some 12) rfl rfl Try.func64 (by kernel_rfl) rfl #[.slice A0 l0.length c0] rfl (by (try simp only [List.map_toArray, List.map_cons, List.map_nil]); first | done | rfl | (simp only [List.length_drop, List.length_take]; rfl)) ?_; (with_reducible refine (tumbrelref01_Open.calls k _ _ l0 t444 t445 t446 _ ?side1 ?side2 A2.out).mono ?_); (case side1 => repeat (first | exact (Kd.C_below HR0.out HB.out) | (with_reducible refine Kd.C_alloc ?_ _) | (with_reducible refine Kd.C_drewN ?_ _) | (with_reducible refine Kd.C_drew ?_))); (case side2 => exact HC0.out); rintro e w5 ⟨v447, rfl, ho0, hb⟩; refine ⟨_, rfl, ?_⟩; have n0_ := Aside0.mk (Kd.R_lower ho0 (below_size kz13_2)); have n1_ := Aside0.mk (blk_below (g := gb443) (o := .cells #[.int .i64 0, .int .i64 0, .int .i64 0, .string (⟨#[]⟩ : ByteArray), .int .i64 0, .bool false] 28 (0, 0)) kz13_6 hb); have n2_ := Aside0.mk (below_step kz13_2 hb); clear BK443; clear HB; have HO448 := n0_; have BK443 := n1_; have HB := n2_; clear n0_ n1_ n2_; (try clear hb); (try clear hb2); (try clear hk); (try clear hi); (try clear ho0)))
 (try simp only [Act.put, sA_, sB_, sC_])
 go_cut [23] (fun v23 wc => ∃ (kq : Nat) (x23_2 : Bool), v23 = .bool x23_2 ∧ Aside0 (tumbrelref18_Decode.j0 kq t444 x23_2 = some (r1, r2, r3, r4, r5, r6, r7)) ∧ Aside0 (kq ≤ k) ∧ Aside0 (Kd.R (Kd.int .u8) 5 wc w.heap.size (fun _ => True) v447 t444) ∧ Aside0 (wc.heap[gb443]? = some (.cells #[.int .i64 0, .int .i64 0, .int .i64 0, .string (⟨#[]⟩ : ByteArray), .int .i64 0, .bool false] 28 (0, 0))) ∧ Aside0 (Below w.heap.size w wc))
 case first =>
  have H := HC3.out
  clear HC3
  by_cases c6 : t446 = 0
  ·rw [if_pos c6] at H
   have c6b0 : (t446 == 0) = true := beq_iff_eq.mpr c6
   have c6b1 : (t446 != 0) = false := bne_eq_false_iff_eq.mpr c6
   clear c6
   (first | rw [c6b0] | (simp only [i64_w, i32_w]; rw [c6b0]) | skip)
   have H' := Aside0.mk H
   clear H
   go_wp2
   go_meet
   case rel => exact ⟨_, ((t445 != (l0.length : Int))), kz13_17, H', ⟨by first | omega | exact Nat.le_refl _⟩, ⟨by (with_reducible repeat (first | apply Kd.R_alloc | apply Kd.R_drewN | apply Kd.R_drew)); exact HO448.out⟩, ⟨by (with_reducible repeat (first | refine blk_drewN ?_ _ | refine blk_drew ?_ | refine blk_alloc ?_ _)); exact BK443.out⟩, ⟨by repeat (first | (with_reducible first | exact HB.out | apply below_alloc | apply pw_below_drewN | apply below_drew1 | refine below_set ?_ GE443.out) | exact HB.out)⟩⟩
  ·rw [if_neg c6] at H
   have c6b0 : (t446 == 0) = false := beq_eq_false_iff_ne.mpr c6
   have c6b1 : (t446 != 0) = true := bne_iff_ne.mpr c6
   (first | rw [c6b0] | (simp only [i64_w, i32_w]; rw [c6b0]) | skip)
   have H' := Aside0.mk H
   clear H
   go_wp2
   go_meet
   case rel => exact ⟨_, (true), kz13_17, H', ⟨by first | omega | exact Nat.le_refl _⟩, ⟨by (with_reducible repeat (first | apply Kd.R_alloc | apply Kd.R_drewN | apply Kd.R_drew)); exact HO448.out⟩, ⟨by (with_reducible repeat (first | refine blk_drewN ?_ _ | refine blk_drew ?_ | refine blk_alloc ?_ _)); exact BK443.out⟩, ⟨by repeat (first | (with_reducible first | exact HB.out | apply below_alloc | apply pw_below_drewN | apply below_drew1 | refine below_set ?_ GE443.out) | exact HB.out)⟩⟩
 case rest =>
  clear HC3
  try clear p2
  try clear c3
  try clear c6
  try clear c6b0
  try clear c6b1
  obtain ⟨kq, x23_2, rfl, HA, HJ2, HO_4, BK443, HB⟩ := hcut
  cases kq with
  | zero => exact absurd HA.out (by simp [tumbrelref18_Decode.j0])
  | succ kj2 =>
   have H := HA.out
   clear HA
   simp only [tumbrelref18_Decode.j0] at H
   by_cases c7 : x23_2 = true
   ·subst c7
    have H1 : (some (0, 0, 0, (⟨#[]⟩ : ByteArray), 0, false, 2)) = some (r1, r2, r3, r4, r5, r6, r7) := by rw [if_pos rfl] at H; exact H
    clear H
    have H := H1
    clear H1
    simp only [Option.some.injEq, Prod.mk.injEq] at H
    obtain ⟨rfl, rfl, rfl, rfl, rfl, rfl, rfl⟩ := H
    have hcz8_0 : wc.cell? ⟨gb443, 0, none⟩ = some (.int .i64 0) := (blk_cell BK443.out 0).trans rfl
    have hcz8_1 : wc.cell? ⟨gb443, 1, none⟩ = some (.int .i64 0) := (blk_cell BK443.out 1).trans rfl
    have hcz8_2 : wc.cell? ⟨gb443, 2, none⟩ = some (.int .i64 0) := (blk_cell BK443.out 2).trans rfl
    have hcz8_3 : wc.cell? ⟨gb443, 3, none⟩ = some (.string (⟨#[]⟩ : ByteArray)) := (blk_cell BK443.out 3).trans rfl
    have hcz8_4 : wc.cell? ⟨gb443, 4, none⟩ = some (.int .i64 0) := (blk_cell BK443.out 4).trans rfl
    have hcz8_5 : wc.cell? ⟨gb443, 5, none⟩ = some (.bool false) := (blk_cell BK443.out 5).trans rfl
    have hfz8_0 := blk_frozen BK443.out 0
    have hfz8_1 := blk_frozen BK443.out 1
    have hfz8_2 := blk_frozen BK443.out 2
    have hfz8_3 := blk_frozen BK443.out 3
    have hfz8_4 := blk_frozen BK443.out 4
    have hfz8_5 := blk_frozen BK443.out 5
    go_wp2
    refine bodyPost_ret (results_ct rfl _ _ gb443 28 #[.int .i64 0, .int .i64 0, .int .i64 0, .string (⟨#[]⟩ : ByteArray), .int .i64 0, .bool false] (0, 0) _ rfl kz13_5 Try.underlying28 rfl (by kernel_rfl)) rfl ?_
    exact ⟨by first | rfl | (simp [errW_none, errW_some] <;> rfl) | (simp [*, errW_none, errW_some] <;> rfl), by repeat (first | (with_reducible first | exact HB.out | apply below_alloc | apply pw_below_drewN | apply below_drew1 | refine below_set ?_ GE443.out) | exact HB.out)⟩
   ·replace c7 := Bool.eq_false_iff.mpr c7
    subst c7
    have H1 : ((tumbrelref01_Read.f kj2 t444).bind fun bt449 => (if bt449.2 = 0 then (tumbrelref18_Decode.j1 kj2 bt449.1 ((bt449.1.length : Int) != 6)) else (tumbrelref18_Decode.j1 kj2 bt449.1 true))) = some (r1, r2, r3, r4, r5, r6, r7) := by rw [if_neg (show ¬ (false = true) by decide)] at H; exact H
    clear H
    have H := H1
    clear H1
    replace H := Option.bind_eq_some_iff.mp H
    obtain ⟨⟨t449, t452⟩, A90, H⟩ := H
    replace H : (if t452 = 0 then (tumbrelref18_Decode.j1 kj2 t449 ((t449.length : Int) != 6)) else (tumbrelref18_Decode.j1 kj2 t449 true)) = some (r1, r2, r3, r4, r5, r6, r7) := H
    have A9 := Aside0.mk A90
    clear A90
    have HC10 := Aside0.mk H
    clear H
    obtain ⟨Ao11, co11, eo11⟩ := Kd.R_slice HO_4.out
    subst eo11
    go_upto_region 5 with (first | ((with_reducible refine gate_callee (f := 65) rfl ?_); refine goesL_ (some 27) rfl rfl Try.func65 (by kernel_rfl) rfl #[.slice Ao11 t444.length co11] rfl (by (try simp only [List.map_toArray, List.map_cons, List.map_nil]); first | done | rfl | (simp only [List.length_drop, List.length_take]; rfl)) ?_; (with_reducible refine (tumbrelref01_Read.calls kj2 (fun k_ => some k_ = (.slice Ao11 t444.length co11 : Value).ownBlock) _ _ t444 t449 t452 _ ?side1 A9.out).mono ?_); (case side1 => exact Kd.R_V (Kd.R_tight rfl (Kd.R_types (HO_4.out) BK443.out (by decide)))); rintro e w12 ⟨v450, rfl, ho0, hb⟩; refine ⟨_, rfl, ?_⟩; have n0_ := Aside0.mk (Kd.R_below (by (with_reducible repeat (first | apply Kd.R_alloc | apply Kd.R_drewN | apply Kd.R_drew)); exact HO_4.out) hb); have n1_ := Aside0.mk (Kd.R_lower (Kd.R_mono (ok' := fun k_ => True) ho0 (fun _ hk_ => trivial)) (below_size kz13_2)); have n2_ := Aside0.mk (blk_below (g := gb443) (o := .cells #[.int .i64 0, .int .i64 0, .int .i64 0, .string (⟨#[]⟩ : ByteArray), .int .i64 0, .bool false] 28 (0, 0)) kz13_6 hb); have n3_ := Aside0.mk (below_step kz13_2 hb); clear HO_4; clear BK443; clear HB; have HO_4 := n0_; have HO451 := n1_; have BK443 := n2_; have HB := n3_; clear n0_ n1_ n2_ n3_; (try clear hb); (try clear hb2); (try clear hk); (try clear hi); (try clear ho0)))
    (try simp only [Act.put, sA_, sB_, sC_])
    go_cut [36] (fun v36 wc => ∃ (kq : Nat) (x36_9 : Bool), v36 = .bool x36_9 ∧ Aside0 (tumbrelref18_Decode.j1 kq t449 x36_9 = some (r1, r2, r3, r4, r5, r6, r7)) ∧ Aside0 (kq ≤ kj2) ∧ Aside0 (Kd.R k117 117 wc w.heap.size (fun _ => True) v450 t449) ∧ Aside0 (wc.heap[gb443]? = some (.cells #[.int .i64 0, .int .i64 0, .int .i64 0, .string (⟨#[]⟩ : ByteArray), .int .i64 0, .bool false] 28 (0, 0))) ∧ Aside0 (Below w.heap.size w wc))
    case first =>
     have H := HC10.out
     clear HC10
     by_cases c13 : t452 = 0
     ·rw [if_pos c13] at H
      have c13b0 : (t452 == 0) = true := beq_iff_eq.mpr c13
      have c13b1 : (t452 != 0) = false := bne_eq_false_iff_eq.mpr c13
      clear c13
      (first | rw [c13b0] | (simp only [i64_w, i32_w]; rw [c13b0]) | skip)
      have H' := Aside0.mk H
      clear H
      obtain ⟨Ao14, co14, eo14⟩ := Kd.R_slice HO451.out
      subst eo14
      go_wp2
      go_meet
      case rel => exact ⟨_, (((t449.length : Int) != 6)), kz13_17, H', ⟨by have := HJ2.out; first | omega | exact Nat.le_refl _⟩, ⟨by (with_reducible repeat (first | apply Kd.R_alloc | apply Kd.R_drewN | apply Kd.R_drew)); exact HO451.out⟩, ⟨by (with_reducible repeat (first | refine blk_drewN ?_ _ | refine blk_drew ?_ | refine blk_alloc ?_ _)); exact BK443.out⟩, ⟨by repeat (first | (with_reducible first | exact HB.out | apply below_alloc | apply pw_below_drewN | apply below_drew1 | refine below_set ?_ GE443.out) | exact HB.out)⟩⟩
     ·rw [if_neg c13] at H
      have c13b0 : (t452 == 0) = false := beq_eq_false_iff_ne.mpr c13
      have c13b1 : (t452 != 0) = true := bne_iff_ne.mpr c13
      (first | rw [c13b0] | (simp only [i64_w, i32_w]; rw [c13b0]) | skip)
      have H' := Aside0.mk H
      clear H
      go_wp2
      go_meet
      case rel => exact ⟨_, (true), kz13_17, H', ⟨by have := HJ2.out; first | omega | exact Nat.le_refl _⟩, ⟨by (with_reducible repeat (first | apply Kd.R_alloc | apply Kd.R_drewN | apply Kd.R_drew)); exact HO451.out⟩, ⟨by (with_reducible repeat (first | refine blk_drewN ?_ _ | refine blk_drew ?_ | refine blk_alloc ?_ _)); exact BK443.out⟩, ⟨by repeat (first | (with_reducible first | exact HB.out | apply below_alloc | apply pw_below_drewN | apply below_drew1 | refine below_set ?_ GE443.out) | exact HB.out)⟩⟩
    case rest =>
     clear HC10
     try clear c1
     try clear p2
     try clear c3
     try clear c6
     try clear c6b0
     try clear c6b1
     try clear c7
     try clear c13
     try clear c13b0
     try clear c13b1
     try clear hcz8_0
     try clear hcz8_1
     try clear hcz8_2
     try clear hcz8_3
     try clear hcz8_4
     try clear hcz8_5
     try clear hfz8_0
     try clear hfz8_1
     try clear hfz8_2
     try clear hfz8_3
     try clear hfz8_4
     try clear hfz8_5
     try clear p2
     obtain ⟨kq, x36_9, rfl, HA, HJ9, HO_7, BK443, HB⟩ := hcut
     cases kq with
     | zero => exact absurd HA.out (by simp [tumbrelref18_Decode.j1])
     | succ kj9 =>
      have H := HA.out
      clear HA
      simp only [tumbrelref18_Decode.j1] at H
      by_cases c15 : x36_9 = true
      ·subst c15
       have H1 : (some (0, 0, 0, (⟨#[]⟩ : ByteArray), 0, false, 2)) = some (r1, r2, r3, r4, r5, r6, r7) := by rw [if_pos rfl] at H; exact H
       clear H
       have H := H1
       clear H1
       simp only [Option.some.injEq, Prod.mk.injEq] at H
       obtain ⟨rfl, rfl, rfl, rfl, rfl, rfl, rfl⟩ := H
       have hcz16_0 : wc.cell? ⟨gb443, 0, none⟩ = some (.int .i64 0) := (blk_cell BK443.out 0).trans rfl
       have hcz16_1 : wc.cell? ⟨gb443, 1, none⟩ = some (.int .i64 0) := (blk_cell BK443.out 1).trans rfl
       have hcz16_2 : wc.cell? ⟨gb443, 2, none⟩ = some (.int .i64 0) := (blk_cell BK443.out 2).trans rfl
       have hcz16_3 : wc.cell? ⟨gb443, 3, none⟩ = some (.string (⟨#[]⟩ : ByteArray)) := (blk_cell BK443.out 3).trans rfl
       have hcz16_4 : wc.cell? ⟨gb443, 4, none⟩ = some (.int .i64 0) := (blk_cell BK443.out 4).trans rfl
       have hcz16_5 : wc.cell? ⟨gb443, 5, none⟩ = some (.bool false) := (blk_cell BK443.out 5).trans rfl
       have hfz16_0 := blk_frozen BK443.out 0
       have hfz16_1 := blk_frozen BK443.out 1
       have hfz16_2 := blk_frozen BK443.out 2
       have hfz16_3 := blk_frozen BK443.out 3
       have hfz16_4 := blk_frozen BK443.out 4
       have hfz16_5 := blk_frozen BK443.out 5
       go_wp2
       refine bodyPost_ret (results_ct rfl _ _ gb443 28 #[.int .i64 0, .int .i64 0, .int .i64 0, .string (⟨#[]⟩ : ByteArray), .int .i64 0, .bool false] (0, 0) _ rfl kz13_5 Try.underlying28 rfl (by kernel_rfl)) rfl ?_
       exact ⟨by first | rfl | (simp [errW_none, errW_some] <;> rfl) | (simp [*, errW_none, errW_some] <;> rfl), by repeat (first | (with_reducible first | exact HB.out | apply below_alloc | apply pw_below_drewN | apply below_drew1 | refine below_set ?_ GE443.out) | exact HB.out)⟩
      ·replace c15 := Bool.eq_false_iff.mpr c15
       subst c15
       have H1 : (tumbrelref18_Decode.l0 kj9 t449 (t449.length : Int) 0) = some (r1, r2, r3, r4, r5, r6, r7) := by rw [if_neg (show ¬ (false = true) by decide)] at H; exact H
       clear H
       have H := H1
       clear H1
       have H' := Aside0.mk H
       clear H
       obtain ⟨Ao17, co17, eo17⟩ := Kd.R_slice HO_7.out
       subst eo17
       go_wp2
       go_loopg [40] kj9 (fun kq v40 w' => ∃ (x40_3 : Int) (x444000_3 : Int) (x444001_3 : Int) (x444002_3 : Int) (x444003_3 : ByteArray) (x444004_3 : Int) (x444005_3 : Bool), v40 = .int .i64 x40_3 ∧ Aside0 (tumbrelref18_Decode.l0 kq t449 (t449.length : Int) x40_3 = some (r1, r2, r3, r4, r5, r6, r7)) ∧ Aside0 (kq ≤ kj9) ∧ Aside0 (Kd.R k117 117 w' w.heap.size (fun _ => True) (.slice Ao17 t449.length co17) t449) ∧ Aside0 (w'.heap[gb443]? = some (.cells #[.int .i64 x444000_3, .int .i64 x444001_3, .int .i64 x444002_3, .string x444003_3, .int .i64 x444004_3, .bool x444005_3] 28 (0, 0))) ∧ Aside0 (Below w.heap.size w w'))
       case atStart => exact ⟨(0), (0), (0), (0), ((⟨#[]⟩ : ByteArray)), (0), (false), kz13_17, H', ⟨Nat.le_refl _⟩, ⟨by (with_reducible repeat (first | apply Kd.R_alloc | apply Kd.R_drewN | apply Kd.R_drew)); exact HO_7.out⟩, ⟨by (with_reducible repeat (first | refine blk_drewN ?_ _ | refine blk_drew ?_ | refine blk_alloc ?_ _)); exact BK443.out⟩, ⟨by repeat (first | (with_reducible first | exact HB.out | apply below_alloc | apply pw_below_drewN | apply below_drew1 | refine below_set ?_ GE443.out) | exact HB.out)⟩⟩
       case round =>
        clear H'
        try clear c1
        try clear p2
        try clear c3
        try clear c6
        try clear c6b0
        try clear c6b1
        try clear c7
        try clear c13
        try clear c13b0
        try clear c13b1
        try clear c15
        try clear hcz16_0
        try clear hcz16_1
        try clear hcz16_2
        try clear hcz16_3
        try clear hcz16_4
        try clear hcz16_5
        try clear hcz8_0
        try clear hcz8_1
        try clear hcz8_2
        try clear hcz8_3
        try clear hcz8_4
        try clear hcz8_5
        try clear hfz16_0
        try clear hfz16_1
        try clear hfz16_2
        try clear hfz16_3
        try clear hfz16_4
        try clear hfz16_5
        try clear hfz8_0
        try clear hfz8_1
        try clear hfz8_2
        try clear hfz8_3
        try clear hfz8_4
        try clear hfz8_5
        try clear p2
        obtain ⟨x40_3, x444000_3, x444001_3, x444002_3, x444003_3, x444004_3, x444005_3, rfl, HA, HK3, HO_7, BK443, HB⟩ := hrel
        cases gk with
        | zero => exact absurd HA.out (by simp [tumbrelref18_Decode.l0])
        | succ k3 =>
         have H := HA.out
         clear HA
         simp only [tumbrelref18_Decode.l0] at H
         by_cases c18 : x40_3 < (t449.length : Int)
         ·rw [if_pos c18] at H
          have c18b0 : decide (x40_3 < (t449.length : Int)) = true := decide_eq_true c18
          clear c18
          by_cases c19 : 0 ≤ x40_3
          ·rw [if_pos c19] at H
           have c19b0 : decide (0 ≤ x40_3) = true := decide_eq_true c19
           clear c19
           by_cases c20 : x40_3 < (t449.length : Int)
           ·rw [if_pos c20] at H
            have c20b0 : decide (x40_3 < (t449.length : Int)) = true := decide_eq_true c20
            clear c20
            by_cases c21 : (((rd_T117 t449 x40_3).f0) != (x40_3 == 3)) = true
            ·rw [if_pos c21] at H
             have c21b0 : (((rd_T117 t449 x40_3).f0) != (x40_3 == 3)) = true := c21
             (try (have c21b1 : decide (((rd_T117 t449 x40_3).f0) = (x40_3 == 3)) = false := by simpa using c21))
             (try (have c21b2 : (((rd_T117 t449 x40_3).f0) == (x40_3 == 3)) = false := by simpa using c21))
             (try (have c21b3 : ¬ (((rd_T117 t449 x40_3).f0) = (x40_3 == 3)) := by simpa using c21))
             clear c21
             simp only [Option.some.injEq, Prod.mk.injEq] at H
             obtain ⟨rfl, rfl, rfl, rfl, rfl, rfl, rfl⟩ := H
             have p453 : 0 ≤ (x40_3 : Int) := of_decide_eq_true kz13_4
             have q453 : x40_3 < (t449.length : Int) := of_decide_eq_true kz13_4
             obtain ⟨ad453, e453, hx453_0, hx453_1, hx453_2⟩ := at_T117 (Kd.R_reads' HO_7.out).2.2 x40_3 p453 q453
             cases e453
             replace p453 := eq_true p453
             replace q453 := eq_true q453
             have hcz22_0 : wr.cell? ⟨gb443, 0, none⟩ = some (.int .i64 x444000_3) := (blk_cell BK443.out 0).trans rfl
             have hcz22_1 : wr.cell? ⟨gb443, 1, none⟩ = some (.int .i64 x444001_3) := (blk_cell BK443.out 1).trans rfl
             have hcz22_2 : wr.cell? ⟨gb443, 2, none⟩ = some (.int .i64 x444002_3) := (blk_cell BK443.out 2).trans rfl
             have hcz22_3 : wr.cell? ⟨gb443, 3, none⟩ = some (.string x444003_3) := (blk_cell BK443.out 3).trans rfl
             have hcz22_4 : wr.cell? ⟨gb443, 4, none⟩ = some (.int .i64 x444004_3) := (blk_cell BK443.out 4).trans rfl
             have hcz22_5 : wr.cell? ⟨gb443, 5, none⟩ = some (.bool x444005_3) := (blk_cell BK443.out 5).trans rfl
             have hfz22_0 := blk_frozen BK443.out 0
             have hfz22_1 := blk_frozen BK443.out 1
             have hfz22_2 := blk_frozen BK443.out 2
             have hfz22_3 := blk_frozen BK443.out 3
             have hfz22_4 := blk_frozen BK443.out 4
             have hfz22_5 := blk_frozen BK443.out 5
             go_wp2
             refine bodyPost_ret (results_ct rfl _ _ gb443 28 #[.int .i64 0, .int .i64 0, .int .i64 0, .string (⟨#[]⟩ : ByteArray), .int .i64 0, .bool false] (0, 0) _ rfl kz13_1 Try.underlying28 rfl (by kernel_rfl)) rfl ?_
             exact ⟨by first | rfl | (simp [errW_none, errW_some] <;> rfl) | (simp [*, errW_none, errW_some] <;> rfl), by repeat (first | (with_reducible first | exact HB.out | apply below_alloc | apply pw_below_drewN | apply below_drew1 | refine below_set ?_ GE443.out) | exact HB.out)⟩
            ·rw [if_neg c21] at H
             have c21b0 : (((rd_T117 t449 x40_3).f0) != (x40_3 == 3)) = false := by simpa using c21
             (try (have c21b1 : decide (((rd_T117 t449 x40_3).f0) = (x40_3 == 3)) = true := by simpa using c21))
             (try (have c21b2 : (((rd_T117 t449 x40_3).f0) == (x40_3 == 3)) = true := by simpa using c21))
             clear c21
             by_cases c23 : ((rd_T117 t449 x40_3).f1) < 0
             ·rw [if_pos c23] at H
              have c23b0 : decide (((rd_T117 t449 x40_3).f1) < 0) = true := decide_eq_true c23
              clear c23
              simp only [Option.some.injEq, Prod.mk.injEq] at H
              obtain ⟨rfl, rfl, rfl, rfl, rfl, rfl, rfl⟩ := H
              have p453 : 0 ≤ (x40_3 : Int) := of_decide_eq_true kz13_4
              have q453 : x40_3 < (t449.length : Int) := of_decide_eq_true kz13_4
              obtain ⟨ad453, e453, hx453_0, hx453_1, hx453_2⟩ := at_T117 (Kd.R_reads' HO_7.out).2.2 x40_3 p453 q453
              cases e453
              replace p453 := eq_true p453
              replace q453 := eq_true q453
              have p454 : 0 ≤ (x40_3 : Int) := of_decide_eq_true kz13_4
              have q454 : x40_3 < (t449.length : Int) := of_decide_eq_true kz13_4
              obtain ⟨ad454, e454, hx454_0, hx454_1, hx454_2⟩ := at_T117 (Kd.R_reads' HO_7.out).2.2 x40_3 p454 q454
              obtain rfl : ad453 = ad454 := (by injection e454)
              replace p454 := eq_true p454
              replace q454 := eq_true q454
              have hcz24_0 : wr.cell? ⟨gb443, 0, none⟩ = some (.int .i64 x444000_3) := (blk_cell BK443.out 0).trans rfl
              have hcz24_1 : wr.cell? ⟨gb443, 1, none⟩ = some (.int .i64 x444001_3) := (blk_cell BK443.out 1).trans rfl
              have hcz24_2 : wr.cell? ⟨gb443, 2, none⟩ = some (.int .i64 x444002_3) := (blk_cell BK443.out 2).trans rfl
              have hcz24_3 : wr.cell? ⟨gb443, 3, none⟩ = some (.string x444003_3) := (blk_cell BK443.out 3).trans rfl
              have hcz24_4 : wr.cell? ⟨gb443, 4, none⟩ = some (.int .i64 x444004_3) := (blk_cell BK443.out 4).trans rfl
              have hcz24_5 : wr.cell? ⟨gb443, 5, none⟩ = some (.bool x444005_3) := (blk_cell BK443.out 5).trans rfl
              have hfz24_0 := blk_frozen BK443.out 0
              have hfz24_1 := blk_frozen BK443.out 1
              have hfz24_2 := blk_frozen BK443.out 2
              have hfz24_3 := blk_frozen BK443.out 3
              have hfz24_4 := blk_frozen BK443.out 4
              have hfz24_5 := blk_frozen BK443.out 5
              go_wp2
              refine bodyPost_ret (results_ct rfl _ _ gb443 28 #[.int .i64 0, .int .i64 0, .int .i64 0, .string (⟨#[]⟩ : ByteArray), .int .i64 0, .bool false] (0, 0) _ rfl kz13_1 Try.underlying28 rfl (by kernel_rfl)) rfl ?_
              exact ⟨by first | rfl | (simp [errW_none, errW_some] <;> rfl) | (simp [*, errW_none, errW_some] <;> rfl), by repeat (first | (with_reducible first | exact HB.out | apply below_alloc | apply pw_below_drewN | apply below_drew1 | refine below_set ?_ GE443.out) | exact HB.out)⟩
             ·rw [if_neg c23] at H
              have c23b0 : decide (((rd_T117 t449 x40_3).f1) < 0) = false := decide_eq_false c23
              clear c23
              by_cases c25 : ((rd_T117 t449 x40_3).f1) > 2147483647
              ·rw [if_pos c25] at H
               have c25b0 : decide (2147483647 < ((rd_T117 t449 x40_3).f1)) = true := decide_eq_true c25
               clear c25
               simp only [Option.some.injEq, Prod.mk.injEq] at H
               obtain ⟨rfl, rfl, rfl, rfl, rfl, rfl, rfl⟩ := H
               have p453 : 0 ≤ (x40_3 : Int) := of_decide_eq_true kz13_4
               have q453 : x40_3 < (t449.length : Int) := of_decide_eq_true kz13_4
               obtain ⟨ad453, e453, hx453_0, hx453_1, hx453_2⟩ := at_T117 (Kd.R_reads' HO_7.out).2.2 x40_3 p453 q453
               cases e453
               replace p453 := eq_true p453
               replace q453 := eq_true q453
               have p454 : 0 ≤ (x40_3 : Int) := of_decide_eq_true kz13_4
               have q454 : x40_3 < (t449.length : Int) := of_decide_eq_true kz13_4
               obtain ⟨ad454, e454, hx454_0, hx454_1, hx454_2⟩ := at_T117 (Kd.R_reads' HO_7.out).2.2 x40_3 p454 q454
               obtain rfl : ad453 = ad454 := (by injection e454)
               replace p454 := eq_true p454
               replace q454 := eq_true q454
               have p455 : 0 ≤ (x40_3 : Int) := of_decide_eq_true kz13_4
               have q455 : x40_3 < (t449.length : Int) := of_decide_eq_true kz13_4
               obtain ⟨ad455, e455, hx455_0, hx455_1, hx455_2⟩ := at_T117 (Kd.R_reads' HO_7.out).2.2 x40_3 p455 q455
               obtain rfl : ad453 = ad455 := (by injection e455)
               replace p455 := eq_true p455
               replace q455 := eq_true q455
               have hcz26_0 : wr.cell? ⟨gb443, 0, none⟩ = some (.int .i64 x444000_3) := (blk_cell BK443.out 0).trans rfl
               have hcz26_1 : wr.cell? ⟨gb443, 1, none⟩ = some (.int .i64 x444001_3) := (blk_cell BK443.out 1).trans rfl
               have hcz26_2 : wr.cell? ⟨gb443, 2, none⟩ = some (.int .i64 x444002_3) := (blk_cell BK443.out 2).trans rfl
               have hcz26_3 : wr.cell? ⟨gb443, 3, none⟩ = some (.string x444003_3) := (blk_cell BK443.out 3).trans rfl
               have hcz26_4 : wr.cell? ⟨gb443, 4, none⟩ = some (.int .i64 x444004_3) := (blk_cell BK443.out 4).trans rfl
               have hcz26_5 : wr.cell? ⟨gb443, 5, none⟩ = some (.bool x444005_3) := (blk_cell BK443.out 5).trans rfl
               have hfz26_0 := blk_frozen BK443.out 0
               have hfz26_1 := blk_frozen BK443.out 1
               have hfz26_2 := blk_frozen BK443.out 2
               have hfz26_3 := blk_frozen BK443.out 3
               have hfz26_4 := blk_frozen BK443.out 4
               have hfz26_5 := blk_frozen BK443.out 5
               go_wp2
               refine bodyPost_ret (results_ct rfl _ _ gb443 28 #[.int .i64 0, .int .i64 0, .int .i64 0, .string (⟨#[]⟩ : ByteArray), .int .i64 0, .bool false] (0, 0) _ rfl kz13_1 Try.underlying28 rfl (by kernel_rfl)) rfl ?_
               exact ⟨by first | rfl | (simp [errW_none, errW_some] <;> rfl) | (simp [*, errW_none, errW_some] <;> rfl), by repeat (first | (with_reducible first | exact HB.out | apply below_alloc | apply pw_below_drewN | apply below_drew1 | refine below_set ?_ GE443.out) | exact HB.out)⟩
              ·rw [if_neg c25] at H
               have c25b0 : decide (2147483647 < ((rd_T117 t449 x40_3).f1)) = false := decide_eq_false c25
               clear c25
               have H' := Aside0.mk H
               clear H
               have p453 : 0 ≤ (x40_3 : Int) := of_decide_eq_true kz13_4
               have q453 : x40_3 < (t449.length : Int) := of_decide_eq_true kz13_4
               obtain ⟨ad453, e453, hx453_0, hx453_1, hx453_2⟩ := at_T117 (Kd.R_reads' HO_7.out).2.2 x40_3 p453 q453
               cases e453
               replace p453 := eq_true p453
               replace q453 := eq_true q453
               have p454 : 0 ≤ (x40_3 : Int) := of_decide_eq_true kz13_4
               have q454 : x40_3 < (t449.length : Int) := of_decide_eq_true kz13_4
               obtain ⟨ad454, e454, hx454_0, hx454_1, hx454_2⟩ := at_T117 (Kd.R_reads' HO_7.out).2.2 x40_3 p454 q454
               obtain rfl : ad453 = ad454 := (by injection e454)
               replace p454 := eq_true p454
               replace q454 := eq_true q454
               have p455 : 0 ≤ (x40_3 : Int) := of_decide_eq_true kz13_4
               have q455 : x40_3 < (t449.length : Int) := of_decide_eq_true kz13_4
               obtain ⟨ad455, e455, hx455_0, hx455_1, hx455_2⟩ := at_T117 (Kd.R_reads' HO_7.out).2.2 x40_3 p455 q455
               obtain rfl : ad453 = ad455 := (by injection e455)
               replace p455 := eq_true p455
               replace q455 := eq_true q455
               go_wp2
               go_roundg k3
               case measure => have := HJ2.out; have := HJ9.out; have := HK3.out; omega
               case rel => exact ⟨(wrap64 (x40_3 + 1)), (x444000_3), (x444001_3), (x444002_3), (x444003_3), (x444004_3), (x444005_3), kz13_17, H', ⟨by have := HJ2.out; have := HJ9.out; have := HK3.out; omega⟩, ⟨by (with_reducible repeat (first | apply Kd.R_alloc | apply Kd.R_drewN | apply Kd.R_drew)); exact HO_7.out⟩, ⟨by (with_reducible repeat (first | refine blk_drewN ?_ _ | refine blk_drew ?_ | refine blk_alloc ?_ _)); exact BK443.out⟩, ⟨by repeat (first | (with_reducible first | exact HB.out | apply below_alloc | apply pw_below_drewN | apply below_drew1 | refine below_set ?_ GE443.out) | exact HB.out)⟩⟩
           ·rw [if_neg c20] at H
            exact absurd H (by simp)
          ·rw [if_neg c19] at H
           exact absurd H (by simp)
         ·rw [if_neg c18] at H
          have c18b0 : decide (x40_3 < (t449.length : Int)) = false := decide_eq_false c18
          clear c18
          by_cases c27 : 0 < (t449.length : Int)
          ·rw [if_pos c27] at H
           have c27b0 : decide (0 < (t449.length : Int)) = true := decide_eq_true c27
           have c27b1 : decide (0 < t449.length) = true := decide_eq_true (by omega)
           clear c27
           by_cases c28 : 1 < (t449.length : Int)
           ·rw [if_pos c28] at H
            have c28b0 : decide (1 < (t449.length : Int)) = true := decide_eq_true c28
            have c28b1 : decide (1 < t449.length) = true := decide_eq_true (by omega)
            clear c28
            by_cases c29 : 2 < (t449.length : Int)
            ·rw [if_pos c29] at H
             have c29b0 : decide (2 < (t449.length : Int)) = true := decide_eq_true c29
             have c29b1 : decide (2 < t449.length) = true := decide_eq_true (by omega)
             clear c29
             by_cases c30 : 3 < (t449.length : Int)
             ·rw [if_pos c30] at H
              have c30b0 : decide (3 < (t449.length : Int)) = true := decide_eq_true c30
              have c30b1 : decide (3 < t449.length) = true := decide_eq_true (by omega)
              clear c30
              by_cases c31 : 4 < (t449.length : Int)
              ·rw [if_pos c31] at H
               have c31b0 : decide (4 < (t449.length : Int)) = true := decide_eq_true c31
               have c31b1 : decide (4 < t449.length) = true := decide_eq_true (by omega)
               clear c31
               by_cases c32 : 5 < (t449.length : Int)
               ·rw [if_pos c32] at H
                have c32b0 : decide (5 < (t449.length : Int)) = true := decide_eq_true c32
                have c32b1 : decide (5 < t449.length) = true := decide_eq_true (by omega)
                clear c32
                by_cases c33 : ((rd_T117 t449 5).f1) > 1
                ·rw [if_pos c33] at H
                 have c33b0 : decide (1 < ((rd_T117 t449 5).f1)) = true := decide_eq_true c33
                 clear c33
                 simp only [Option.some.injEq, Prod.mk.injEq] at H
                 obtain ⟨rfl, rfl, rfl, rfl, rfl, rfl, rfl⟩ := H
                 try go_wp2
                 have n0_ := Aside0.mk (Kd.R_drew HO_7.out)
                 have n1_ := Aside0.mk (blk_drew BK443.out)
                 have n2_ := Aside0.mk (below_drew1 HB.out)
                 clear HO_7
                 clear BK443
                 clear HB
                 have HO_7 := n0_
                 have BK443 := n1_
                 have HB := n2_
                 clear n0_ n1_ n2_
                 have p456 : 0 ≤ (0 : Int) := (by omega)
                 have q456 : 0 < (t449.length : Int) := of_decide_eq_true kz13_4
                 obtain ⟨ad456, e456, hx456_0, hx456_1, hx456_2⟩ := at_T117 (Kd.R_reads' HO_7.out).2.2 0 p456 q456
                 cases e456
                 have qi456 : (0 < t449.length) = True := eq_true (by omega)
                 (try rw [show ((0 : Int)).toNat = 0 from rfl] at hx456_0)
                 (try rw [show 0 * 3 = 0 from rfl] at hx456_0)
                 (try rw [Addr.add_zero'] at hx456_0)
                 (try rw [show ((0 : Int)).toNat = 0 from rfl] at hx456_1)
                 (try rw [show 0 * 3 = 0 from rfl] at hx456_1)
                 (try rw [Addr.add_zero'] at hx456_1)
                 (try rw [show ((0 : Int)).toNat = 0 from rfl] at hx456_2)
                 (try rw [show 0 * 3 = 0 from rfl] at hx456_2)
                 (try rw [Addr.add_zero'] at hx456_2)
                 replace p456 := eq_true p456
                 replace q456 := eq_true q456
                 have p457 : 0 ≤ (1 : Int) := (by omega)
                 have q457 : 1 < (t449.length : Int) := of_decide_eq_true kz13_4
                 obtain ⟨ad457, e457, hx457_0, hx457_1, hx457_2⟩ := at_T117 (Kd.R_reads' HO_7.out).2.2 1 p457 q457
                 obtain rfl : ad456 = ad457 := (by injection e457)
                 (try simp only [show (1 : Int).toNat = 1 from rfl, Nat.reduceMul, Nat.reduceEqDiff, Go.Addr.add, ↓reduceIte] at hx457_0)
                 (try simp only [show (1 : Int).toNat = 1 from rfl, Nat.reduceMul, Nat.reduceEqDiff, Go.Addr.add, ↓reduceIte] at hx457_1)
                 (try simp only [show (1 : Int).toNat = 1 from rfl, Nat.reduceMul, Nat.reduceEqDiff, Go.Addr.add, ↓reduceIte] at hx457_2)
                 have qi457 : (1 < t449.length) = True := eq_true (by omega)
                 (try rw [show ((1 : Int)).toNat = 1 from rfl] at hx457_0)
                 (try rw [show 1 * 3 = 3 from rfl] at hx457_0)
                 (try rw [show ((1 : Int)).toNat = 1 from rfl] at hx457_1)
                 (try rw [show 1 * 3 = 3 from rfl] at hx457_1)
                 (try rw [show ((1 : Int)).toNat = 1 from rfl] at hx457_2)
                 (try rw [show 1 * 3 = 3 from rfl] at hx457_2)
                 replace p457 := eq_true p457
                 replace q457 := eq_true q457
                 have p458 : 0 ≤ (2 : Int) := (by omega)
                 have q458 : 2 < (t449.length : Int) := of_decide_eq_true kz13_4
                 obtain ⟨ad458, e458, hx458_0, hx458_1, hx458_2⟩ := at_T117 (Kd.R_reads' HO_7.out).2.2 2 p458 q458
                 obtain rfl : ad456 = ad458 := (by injection e458)
                 (try simp only [show (2 : Int).toNat = 2 from rfl, Nat.reduceMul, Nat.reduceEqDiff, Go.Addr.add, ↓reduceIte] at hx458_0)
                 (try simp only [show (2 : Int).toNat = 2 from rfl, Nat.reduceMul, Nat.reduceEqDiff, Go.Addr.add, ↓reduceIte] at hx458_1)
                 (try simp only [show (2 : Int).toNat = 2 from rfl, Nat.reduceMul, Nat.reduceEqDiff, Go.Addr.add, ↓reduceIte] at hx458_2)
                 have qi458 : (2 < t449.length) = True := eq_true (by omega)
                 (try rw [show ((2 : Int)).toNat = 2 from rfl] at hx458_0)
                 (try rw [show 2 * 3 = 6 from rfl] at hx458_0)
                 (try rw [show ((2 : Int)).toNat = 2 from rfl] at hx458_1)
                 (try rw [show 2 * 3 = 6 from rfl] at hx458_1)
                 (try rw [show ((2 : Int)).toNat = 2 from rfl] at hx458_2)
                 (try rw [show 2 * 3 = 6 from rfl] at hx458_2)
                 replace p458 := eq_true p458
                 replace q458 := eq_true q458
                 have p459 : 0 ≤ (3 : Int) := (by omega)
                 have q459 : 3 < (t449.length : Int) := of_decide_eq_true kz13_4
                 obtain ⟨ad459, e459, hx459_0, hx459_1, hx459_2⟩ := at_T117 (Kd.R_reads' HO_7.out).2.2 3 p459 q459
                 obtain rfl : ad456 = ad459 := (by injection e459)
                 (try simp only [show (3 : Int).toNat = 3 from rfl, Nat.reduceMul, Nat.reduceEqDiff, Go.Addr.add, ↓reduceIte] at hx459_0)
                 (try simp only [show (3 : Int).toNat = 3 from rfl, Nat.reduceMul, Nat.reduceEqDiff, Go.Addr.add, ↓reduceIte] at hx459_1)
                 (try simp only [show (3 : Int).toNat = 3 from rfl, Nat.reduceMul, Nat.reduceEqDiff, Go.Addr.add, ↓reduceIte] at hx459_2)
                 have qi459 : (3 < t449.length) = True := eq_true (by omega)
                 (try rw [show ((3 : Int)).toNat = 3 from rfl] at hx459_0)
                 (try rw [show 3 * 3 = 9 from rfl] at hx459_0)
                 (try rw [show ((3 : Int)).toNat = 3 from rfl] at hx459_1)
                 (try rw [show 3 * 3 = 9 from rfl] at hx459_1)
                 (try rw [show ((3 : Int)).toNat = 3 from rfl] at hx459_2)
                 (try rw [show 3 * 3 = 9 from rfl] at hx459_2)
                 replace p459 := eq_true p459
                 replace q459 := eq_true q459
                 have p460 : 0 ≤ (4 : Int) := (by omega)
                 have q460 : 4 < (t449.length : Int) := of_decide_eq_true kz13_4
                 obtain ⟨ad460, e460, hx460_0, hx460_1, hx460_2⟩ := at_T117 (Kd.R_reads' HO_7.out).2.2 4 p460 q460
                 obtain rfl : ad456 = ad460 := (by injection e460)
                 (try simp only [show (4 : Int).toNat = 4 from rfl, Nat.reduceMul, Nat.reduceEqDiff, Go.Addr.add, ↓reduceIte] at hx460_0)
                 (try simp only [show (4 : Int).toNat = 4 from rfl, Nat.reduceMul, Nat.reduceEqDiff, Go.Addr.add, ↓reduceIte] at hx460_1)
                 (try simp only [show (4 : Int).toNat = 4 from rfl, Nat.reduceMul, Nat.reduceEqDiff, Go.Addr.add, ↓reduceIte] at hx460_2)
                 have qi460 : (4 < t449.length) = True := eq_true (by omega)
                 (try rw [show ((4 : Int)).toNat = 4 from rfl] at hx460_0)
                 (try rw [show 4 * 3 = 12 from rfl] at hx460_0)
                 (try rw [show ((4 : Int)).toNat = 4 from rfl] at hx460_1)
                 (try rw [show 4 * 3 = 12 from rfl] at hx460_1)
                 (try rw [show ((4 : Int)).toNat = 4 from rfl] at hx460_2)
                 (try rw [show 4 * 3 = 12 from rfl] at hx460_2)
                 replace p460 := eq_true p460
                 replace q460 := eq_true q460
                 have p461 : 0 ≤ (5 : Int) := (by omega)
                 have q461 : 5 < (t449.length : Int) := of_decide_eq_true kz13_4
                 obtain ⟨ad461, e461, hx461_0, hx461_1, hx461_2⟩ := at_T117 (Kd.R_reads' HO_7.out).2.2 5 p461 q461
                 obtain rfl : ad456 = ad461 := (by injection e461)
                 (try simp only [show (5 : Int).toNat = 5 from rfl, Nat.reduceMul, Nat.reduceEqDiff, Go.Addr.add, ↓reduceIte] at hx461_0)
                 (try simp only [show (5 : Int).toNat = 5 from rfl, Nat.reduceMul, Nat.reduceEqDiff, Go.Addr.add, ↓reduceIte] at hx461_1)
                 (try simp only [show (5 : Int).toNat = 5 from rfl, Nat.reduceMul, Nat.reduceEqDiff, Go.Addr.add, ↓reduceIte] at hx461_2)
                 have qi461 : (5 < t449.length) = True := eq_true (by omega)
                 (try rw [show ((5 : Int)).toNat = 5 from rfl] at hx461_0)
                 (try rw [show 5 * 3 = 15 from rfl] at hx461_0)
                 (try rw [show ((5 : Int)).toNat = 5 from rfl] at hx461_1)
                 (try rw [show 5 * 3 = 15 from rfl] at hx461_1)
                 (try rw [show ((5 : Int)).toNat = 5 from rfl] at hx461_2)
                 (try rw [show 5 * 3 = 15 from rfl] at hx461_2)
                 replace p461 := eq_true p461
                 replace q461 := eq_true q461
                 refine start_ (n := 28) (S := fun w' => w'.cell? ad456 = some (.bool ((rd_T117 t449 0).f0)) ∧ w'.cell? ⟨ad456.block, ad456.off + 1, none⟩ = some (.int .i64 ((rd_T117 t449 0).f1)) ∧ w'.cell? ⟨ad456.block, ad456.off + 2, none⟩ = some (.string ((rd_T117 t449 0).f2)) ∧ w'.cell? ⟨ad456.block, ad456.off + 3, none⟩ = some (.bool ((rd_T117 t449 1).f0)) ∧ w'.cell? ⟨ad456.block, ad456.off + 3 + 1, none⟩ = some (.int .i64 ((rd_T117 t449 1).f1)) ∧ w'.cell? ⟨ad456.block, ad456.off + 3 + 2, none⟩ = some (.string ((rd_T117 t449 1).f2)) ∧ w'.cell? ⟨ad456.block, ad456.off + 6, none⟩ = some (.bool ((rd_T117 t449 2).f0)) ∧ w'.cell? ⟨ad456.block, ad456.off + 6 + 1, none⟩ = some (.int .i64 ((rd_T117 t449 2).f1)) ∧ w'.cell? ⟨ad456.block, ad456.off + 6 + 2, none⟩ = some (.string ((rd_T117 t449 2).f2)) ∧ w'.cell? ⟨ad456.block, ad456.off + 9, none⟩ = some (.bool ((rd_T117 t449 3).f0)) ∧ w'.cell? ⟨ad456.block, ad456.off + 9 + 1, none⟩ = some (.int .i64 ((rd_T117 t449 3).f1)) ∧ w'.cell? ⟨ad456.block, ad456.off + 9 + 2, none⟩ = some (.string ((rd_T117 t449 3).f2)) ∧ w'.cell? ⟨ad456.block, ad456.off + 12, none⟩ = some (.bool ((rd_T117 t449 4).f0)) ∧ w'.cell? ⟨ad456.block, ad456.off + 12 + 1, none⟩ = some (.int .i64 ((rd_T117 t449 4).f1)) ∧ w'.cell? ⟨ad456.block, ad456.off + 12 + 2, none⟩ = some (.string ((rd_T117 t449 4).f2)) ∧ w'.cell? ⟨ad456.block, ad456.off + 15, none⟩ = some (.bool ((rd_T117 t449 5).f0)) ∧ w'.cell? ⟨ad456.block, ad456.off + 15 + 1, none⟩ = some (.int .i64 ((rd_T117 t449 5).f1)) ∧ w'.cell? ⟨ad456.block, ad456.off + 15 + 2, none⟩ = some (.string ((rd_T117 t449 5).f2))) (ds := []) #[false, false, false, false, false, false, false, false, false, false, false, false, false, false, false, false, false, false, false, false, false, false, false, false, false, false, false, false] (by kernel_rfl) rfl rfl ⟨hx456_0, hx456_1, hx456_2, hx457_0, hx457_1, hx457_2, hx458_0, hx458_1, hx458_2, hx459_0, hx459_1, hx459_2, hx460_0, hx460_1, hx460_2, hx461_0, hx461_1, hx461_2⟩ (fun hHeld => ?_); refine with_tabW tumbrelref18_Decode.tab13 tumbrelref18_Decode.bits13 (fun HT_ HW_ => ?_)
                 generalize wr.drew = w34 at HO_7 BK443 HB hx456_0 hx456_1 hx456_2 hx457_0 hx457_1 hx457_2 hx458_0 hx458_1 hx458_2 hx459_0 hx459_1 hx459_2 hx460_0 hx460_1 hx460_2 hx461_0 hx461_1 hx461_2 hHeld ⊢
                 refine pure_ (i := 0) (N := some 69) (v := ?_) (a' := ?_) #[true, false, false, false, false, false, false, false, false, false, false, false, false, false, false, false, false, false, false, false, false, false, false, false, false, false, false, false] rfl rfl (any_of HT_.out (by kernel_rfl)) (fun _ _ _ h => h) (Or.inl ⟨by rfl, ?_⟩) ?_ ?_
                 rotate_left
                 ·intro w'
                  go_simp
                  with_reducible rfl
                 rotate_left
                 ·simp only [Act.put, sA_, sB_, sC_, i64_w, i32_w]
                  rfl
                 refine pure_ (i := 1) (N := some 70) (v := ?_) (a' := ?_) #[true, true, false, false, false, false, false, false, false, false, false, false, false, false, false, false, false, false, false, false, false, false, false, false, false, false, false, false] rfl rfl (any_of HT_.out (by kernel_rfl)) (fun _ _ _ h => h) (Or.inl ⟨by rfl, ?_⟩) ?_ ?_
                 rotate_left
                 ·intro w'
                  go_simp
                  with_reducible rfl
                 rotate_left
                 ·simp only [Act.put, sA_, sB_, sC_, i64_w, i32_w]
                  rfl
                 refine pure_ (i := 2) (N := some 71) (v := ?_) (a' := ?_) #[true, true, true, false, false, false, false, false, false, false, false, false, false, false, false, false, false, false, false, false, false, false, false, false, false, false, false, false] rfl rfl (any_of HT_.out (by kernel_rfl)) (fun _ _ _ h => h) (Or.inl ⟨by rfl, ?_⟩) ?_ ?_
                 rotate_left
                 ·intro w'
                  go_simp
                  with_reducible rfl
                 rotate_left
                 ·simp only [Act.put, sA_, sB_, sC_, i64_w, i32_w]
                  rfl
                 refine pure_ (i := 4) (N := some 73) (v := ?_) (a' := ?_) #[true, true, true, false, true, false, false, false, false, false, false, false, false, false, false, false, false, false, false, false, false, false, false, false, false, false, false, false] rfl rfl (any_of HT_.out (by kernel_rfl)) (fun _ _ _ h => h) (Or.inl ⟨by rfl, ?_⟩) ?_ ?_
                 rotate_left
                 ·intro w'
                  go_simp
                  with_reducible rfl
                 rotate_left
                 ·simp only [Act.put, sA_, sB_, sC_, i64_w, i32_w]
                  rfl
                 refine pure_ (i := 5) (N := some 74) (v := ?_) (a' := ?_) #[true, true, true, false, true, true, false, false, false, false, false, false, false, false, false, false, false, false, false, false, false, false, false, false, false, false, false, false] rfl rfl (any_of HT_.out (by kernel_rfl)) (fun _ _ _ h => h) (Or.inl ⟨by rfl, ?_⟩) ?_ ?_
                 rotate_left
                 ·intro w'
                  go_simp
                  with_reducible rfl
                 rotate_left
                 ·simp only [Act.put, sA_, sB_, sC_, i64_w, i32_w]
                  rfl
                 refine pure_ (i := 6) (N := some 75) (v := ?_) (a' := ?_) #[true, true, true, false, true, true, true, false, false, false, false, false, false, false, false, false, false, false, false, false, false, false, false, false, false, false, false, false] rfl rfl (any_of HT_.out (by kernel_rfl)) (fun _ _ _ h => h) (Or.inl ⟨by rfl, ?_⟩) ?_ ?_
                 rotate_left
                 ·intro w'
                  go_simp
                  with_reducible rfl
                 rotate_left
                 ·simp only [Act.put, sA_, sB_, sC_, i64_w, i32_w]
                  rfl
                 refine pure_ (i := 8) (N := some 77) (v := ?_) (a' := ?_) #[true, true, true, false, true, true, true, false, true, false, false, false, false, false, false, false, false, false, false, false, false, false, false, false, false, false, false, false] rfl rfl (any_of HT_.out (by kernel_rfl)) (fun _ _ _ h => h) (Or.inl ⟨by rfl, ?_⟩) ?_ ?_
                 rotate_left
                 ·intro w'
                  go_simp
                  with_reducible rfl
                 rotate_left
                 ·simp only [Act.put, sA_, sB_, sC_, i64_w, i32_w]
                  rfl
                 refine pure_ (i := 9) (N := some 78) (v := ?_) (a' := ?_) #[true, true, true, false, true, true, true, false, true, true, false, false, false, false, false, false, false, false, false, false, false, false, false, false, false, false, false, false] rfl rfl (any_of HT_.out (by kernel_rfl)) (fun _ _ _ h => h) (Or.inl ⟨by rfl, ?_⟩) ?_ ?_
                 rotate_left
                 ·intro w'
                  go_simp
                  with_reducible rfl
                 rotate_left
                 ·simp only [Act.put, sA_, sB_, sC_, i64_w, i32_w]
                  rfl
                 refine pure_ (i := 10) (N := some 79) (v := ?_) (a' := ?_) #[true, true, true, false, true, true, true, false, true, true, true, false, false, false, false, false, false, false, false, false, false, false, false, false, false, false, false, false] rfl rfl (any_of HT_.out (by kernel_rfl)) (fun _ _ _ h => h) (Or.inl ⟨by rfl, ?_⟩) ?_ ?_
                 rotate_left
                 ·intro w'
                  go_simp
                  with_reducible rfl
                 rotate_left
                 ·simp only [Act.put, sA_, sB_, sC_, i64_w, i32_w]
                  rfl
                 refine pure_ (i := 12) (N := some 81) (v := ?_) (a' := ?_) #[true, true, true, false, true, true, true, false, true, true, true, false, true, false, false, false, false, false, false, false, false, false, false, false, false, false, false, false] rfl rfl (any_of HT_.out (by kernel_rfl)) (fun _ _ _ h => h) (Or.inl ⟨by rfl, ?_⟩) ?_ ?_
                 rotate_left
                 ·intro w'
                  go_simp
                  with_reducible rfl
                 rotate_left
                 ·simp only [Act.put, sA_, sB_, sC_, i64_w, i32_w]
                  rfl
                 refine pure_ (i := 13) (N := some 82) (v := ?_) (a' := ?_) #[true, true, true, false, true, true, true, false, true, true, true, false, true, true, false, false, false, false, false, false, false, false, false, false, false, false, false, false] rfl rfl (any_of HT_.out (by kernel_rfl)) (fun _ _ _ h => h) (Or.inl ⟨by rfl, ?_⟩) ?_ ?_
                 rotate_left
                 ·intro w'
                  go_simp
                  with_reducible rfl
                 rotate_left
                 ·simp only [Act.put, sA_, sB_, sC_, i64_w, i32_w]
                  rfl
                 refine pure_ (i := 14) (N := some 83) (v := ?_) (a' := ?_) #[true, true, true, false, true, true, true, false, true, true, true, false, true, true, true, false, false, false, false, false, false, false, false, false, false, false, false, false] rfl rfl (any_of HT_.out (by kernel_rfl)) (fun _ _ _ h => h) (Or.inl ⟨by rfl, ?_⟩) ?_ ?_
                 rotate_left
                 ·intro w'
                  go_simp
                  with_reducible rfl
                 rotate_left
                 ·simp only [Act.put, sA_, sB_, sC_, i64_w, i32_w]
                  rfl
                 refine pure_ (i := 16) (N := some 85) (v := ?_) (a' := ?_) #[true, true, true, false, true, true, true, false, true, true, true, false, true, true, true, false, true, false, false, false, false, false, false, false, false, false, false, false] rfl rfl (any_of HT_.out (by kernel_rfl)) (fun _ _ _ h => h) (Or.inl ⟨by rfl, ?_⟩) ?_ ?_
                 rotate_left
                 ·intro w'
                  go_simp
                  with_reducible rfl
                 rotate_left
                 ·simp only [Act.put, sA_, sB_, sC_, i64_w, i32_w]
                  rfl
                 refine pure_ (i := 17) (N := some 86) (v := ?_) (a' := ?_) #[true, true, true, false, true, true, true, false, true, true, true, false, true, true, true, false, true, true, false, false, false, false, false, false, false, false, false, false] rfl rfl (any_of HT_.out (by kernel_rfl)) (fun _ _ _ h => h) (Or.inl ⟨by rfl, ?_⟩) ?_ ?_
                 rotate_left
                 ·intro w'
                  go_simp
                  with_reducible rfl
                 rotate_left
                 ·simp only [Act.put, sA_, sB_, sC_, i64_w, i32_w]
                  rfl
                 refine pure_ (i := 18) (N := some 87) (v := ?_) (a' := ?_) #[true, true, true, false, true, true, true, false, true, true, true, false, true, true, true, false, true, true, true, false, false, false, false, false, false, false, false, false] rfl rfl (any_of HT_.out (by kernel_rfl)) (fun _ _ _ h => h) (Or.inl ⟨by rfl, ?_⟩) ?_ ?_
                 rotate_left
                 ·intro w'
                  go_simp
                  with_reducible rfl
                 rotate_left
                 ·simp only [Act.put, sA_, sB_, sC_, i64_w, i32_w]
                  rfl
                 refine pure_ (i := 20) (N := some 89) (v := ?_) (a' := ?_) #[true, true, true, false, true, true, true, false, true, true, true, false, true, true, true, false, true, true, true, false, true, false, false, false, false, false, false, false] rfl rfl (any_of HT_.out (by kernel_rfl)) (fun _ _ _ h => h) (Or.inl ⟨by rfl, ?_⟩) ?_ ?_
                 rotate_left
                 ·intro w'
                  go_simp
                  with_reducible rfl
                 rotate_left
                 ·simp only [Act.put, sA_, sB_, sC_, i64_w, i32_w]
                  rfl
                 refine pure_ (i := 21) (N := some 90) (v := ?_) (a' := ?_) #[true, true, true, false, true, true, true, false, true, true, true, false, true, true, true, false, true, true, true, false, true, true, false, false, false, false, false, false] rfl rfl (any_of HT_.out (by kernel_rfl)) (fun _ _ _ h => h) (Or.inl ⟨by rfl, ?_⟩) ?_ ?_
                 rotate_left
                 ·intro w'
                  go_simp
                  with_reducible rfl
                 rotate_left
                 ·simp only [Act.put, sA_, sB_, sC_, i64_w, i32_w]
                  rfl
                 refine pure_ (i := 22) (N := some 91) (v := ?_) (a' := ?_) #[true, true, true, false, true, true, true, false, true, true, true, false, true, true, true, false, true, true, true, false, true, true, true, false, false, false, false, false] rfl rfl (any_of HT_.out (by kernel_rfl)) (fun _ _ _ h => h) (Or.inl ⟨by rfl, ?_⟩) ?_ ?_
                 rotate_left
                 ·intro w'
                  go_simp
                  with_reducible rfl
                 rotate_left
                 ·simp only [Act.put, sA_, sB_, sC_, i64_w, i32_w]
                  rfl
                 refine take_ (i := 3) (N := some 72) (v := ?_) (a' := ?_) #[true, true, true, true, true, true, true, false, true, true, true, false, true, true, true, false, true, true, true, false, true, true, true, false, false, false, false, false] rfl rfl (take_ofW HT_.out HW_.out (by kernel_rfl)) (fun _ _ _ h => h) (Or.inl ⟨by rfl, ?_⟩) hHeld ?_ ?_
                 rotate_left
                 ·rintro w' ⟨s0, s1, s2, s3, s4, s5, s6, s7, s8, s9, s10, s11, s12, s13, s14, s15, s16, s17⟩
                  go_simp
                  with_reducible rfl
                 rotate_left
                 ·simp only [Act.put, sA_, sB_, sC_, i64_w, i32_w]
                  rfl
                 refine take_ (i := 7) (N := some 76) (v := ?_) (a' := ?_) #[true, true, true, true, true, true, true, true, true, true, true, false, true, true, true, false, true, true, true, false, true, true, true, false, false, false, false, false] rfl rfl (take_ofW HT_.out HW_.out (by kernel_rfl)) (fun _ _ _ h => h) (Or.inl ⟨by rfl, ?_⟩) hHeld ?_ ?_
                 rotate_left
                 ·rintro w' ⟨s0, s1, s2, s3, s4, s5, s6, s7, s8, s9, s10, s11, s12, s13, s14, s15, s16, s17⟩
                  go_simp
                  with_reducible rfl
                 rotate_left
                 ·simp only [Act.put, sA_, sB_, sC_, i64_w, i32_w]
                  rfl
                 refine take_ (i := 11) (N := some 80) (v := ?_) (a' := ?_) #[true, true, true, true, true, true, true, true, true, true, true, true, true, true, true, false, true, true, true, false, true, true, true, false, false, false, false, false] rfl rfl (take_ofW HT_.out HW_.out (by kernel_rfl)) (fun _ _ _ h => h) (Or.inl ⟨by rfl, ?_⟩) hHeld ?_ ?_
                 rotate_left
                 ·rintro w' ⟨s0, s1, s2, s3, s4, s5, s6, s7, s8, s9, s10, s11, s12, s13, s14, s15, s16, s17⟩
                  go_simp
                  with_reducible rfl
                 rotate_left
                 ·simp only [Act.put, sA_, sB_, sC_, i64_w, i32_w]
                  rfl
                 refine take_ (i := 15) (N := some 84) (v := ?_) (a' := ?_) #[true, true, true, true, true, true, true, true, true, true, true, true, true, true, true, true, true, true, true, false, true, true, true, false, false, false, false, false] rfl rfl (take_ofW HT_.out HW_.out (by kernel_rfl)) (fun _ _ _ h => h) (Or.inl ⟨by rfl, ?_⟩) hHeld ?_ ?_
                 rotate_left
                 ·rintro w' ⟨s0, s1, s2, s3, s4, s5, s6, s7, s8, s9, s10, s11, s12, s13, s14, s15, s16, s17⟩
                  go_simp
                  with_reducible rfl
                 rotate_left
                 ·simp only [Act.put, sA_, sB_, sC_, i64_w, i32_w]
                  rfl
                 refine take_ (i := 19) (N := some 88) (v := ?_) (a' := ?_) #[true, true, true, true, true, true, true, true, true, true, true, true, true, true, true, true, true, true, true, true, true, true, true, false, false, false, false, false] rfl rfl (take_ofW HT_.out HW_.out (by kernel_rfl)) (fun _ _ _ h => h) (Or.inl ⟨by rfl, ?_⟩) hHeld ?_ ?_
                 rotate_left
                 ·rintro w' ⟨s0, s1, s2, s3, s4, s5, s6, s7, s8, s9, s10, s11, s12, s13, s14, s15, s16, s17⟩
                  go_simp
                  with_reducible rfl
                 rotate_left
                 ·simp only [Act.put, sA_, sB_, sC_, i64_w, i32_w]
                  rfl
                 refine take_ (i := 23) (N := some 92) (v := ?_) (a' := ?_) #[true, true, true, true, true, true, true, true, true, true, true, true, true, true, true, true, true, true, true, true, true, true, true, true, false, false, false, false] rfl rfl (take_ofW HT_.out HW_.out (by kernel_rfl)) (fun _ _ _ h => h) (Or.inl ⟨by rfl, ?_⟩) hHeld ?_ ?_
                 rotate_left
                 ·rintro w' ⟨s0, s1, s2, s3, s4, s5, s6, s7, s8, s9, s10, s11, s12, s13, s14, s15, s16, s17⟩
                  go_simp
                  with_reducible rfl
                 rotate_left
                 ·simp only [Act.put, sA_, sB_, sC_, i64_w, i32_w]
                  rfl
                 refine pure_ (i := 24) (N := some 93) (v := ?_) (a' := ?_) #[true, true, true, true, true, true, true, true, true, true, true, true, true, true, true, true, true, true, true, true, true, true, true, true, true, false, false, false] rfl rfl (any_of HT_.out (by kernel_rfl)) (fun _ _ _ h => h) (Or.inl ⟨by rfl, ?_⟩) ?_ ?_
                 rotate_left
                 ·intro w'
                  go_simp
                  with_reducible rfl
                 rotate_left
                 ·simp only [Act.put, sA_, sB_, sC_, i64_w, i32_w]
                  rfl
                 refine pure_ (i := 25) (N := some 94) (v := ?_) (a' := ?_) #[true, true, true, true, true, true, true, true, true, true, true, true, true, true, true, true, true, true, true, true, true, true, true, true, true, true, false, false] rfl rfl (any_of HT_.out (by kernel_rfl)) (fun _ _ _ h => h) (Or.inl ⟨by rfl, ?_⟩) ?_ ?_
                 rotate_left
                 ·intro w'
                  go_simp
                  with_reducible rfl
                 rotate_left
                 ·simp only [Act.put, sA_, sB_, sC_, i64_w, i32_w]
                  rfl
                 refine one_ (i := 26) (N := some 9) #[true, true, true, true, true, true, true, true, true, true, true, true, true, true, true, true, true, true, true, true, true, true, true, true, true, true, true, false] rfl rfl (one_of HT_.out (by kernel_rfl)) (by decide) (fun K hK => ?_)
                 refine box_step ?hg (N := 9) ?hd (cs := #[.int .i64 0, .int .i64 0, .int .i64 0, .string (⟨#[]⟩ : ByteArray), .int .i64 0, .bool false]) (t := 28) ?hr ?_; (case hd => rfl); (case hg => rfl); (case hr => first | (go_simp; done) | (go_simp; rfl))
                 intro gb462 hg w35 hbox hb
                 have HS0_ := (hb.cell (World.block_lt_of_cell? _ _ (hHeld.1))).trans (hHeld.1)
                 have HS1_ := (hb.cell (World.block_lt_of_cell? _ _ (hHeld.2.1))).trans (hHeld.2.1)
                 have HS2_ := (hb.cell (World.block_lt_of_cell? _ _ (hHeld.2.2.1))).trans (hHeld.2.2.1)
                 have HS3_ := (hb.cell (World.block_lt_of_cell? _ _ (hHeld.2.2.2.1))).trans (hHeld.2.2.2.1)
                 have HS4_ := (hb.cell (World.block_lt_of_cell? _ _ (hHeld.2.2.2.2.1))).trans (hHeld.2.2.2.2.1)
                 have HS5_ := (hb.cell (World.block_lt_of_cell? _ _ (hHeld.2.2.2.2.2.1))).trans (hHeld.2.2.2.2.2.1)
                 have HS6_ := (hb.cell (World.block_lt_of_cell? _ _ (hHeld.2.2.2.2.2.2.1))).trans (hHeld.2.2.2.2.2.2.1)
                 have HS7_ := (hb.cell (World.block_lt_of_cell? _ _ (hHeld.2.2.2.2.2.2.2.1))).trans (hHeld.2.2.2.2.2.2.2.1)
                 have HS8_ := (hb.cell (World.block_lt_of_cell? _ _ (hHeld.2.2.2.2.2.2.2.2.1))).trans (hHeld.2.2.2.2.2.2.2.2.1)
                 have HS9_ := (hb.cell (World.block_lt_of_cell? _ _ (hHeld.2.2.2.2.2.2.2.2.2.1))).trans (hHeld.2.2.2.2.2.2.2.2.2.1)
                 have HS10_ := (hb.cell (World.block_lt_of_cell? _ _ (hHeld.2.2.2.2.2.2.2.2.2.2.1))).trans (hHeld.2.2.2.2.2.2.2.2.2.2.1)
                 have HS11_ := (hb.cell (World.block_lt_of_cell? _ _ (hHeld.2.2.2.2.2.2.2.2.2.2.2.1))).trans (hHeld.2.2.2.2.2.2.2.2.2.2.2.1)
                 have HS12_ := (hb.cell (World.block_lt_of_cell? _ _ (hHeld.2.2.2.2.2.2.2.2.2.2.2.2.1))).trans (hHeld.2.2.2.2.2.2.2.2.2.2.2.2.1)
                 have HS13_ := (hb.cell (World.block_lt_of_cell? _ _ (hHeld.2.2.2.2.2.2.2.2.2.2.2.2.2.1))).trans (hHeld.2.2.2.2.2.2.2.2.2.2.2.2.2.1)
                 have HS14_ := (hb.cell (World.block_lt_of_cell? _ _ (hHeld.2.2.2.2.2.2.2.2.2.2.2.2.2.2.1))).trans (hHeld.2.2.2.2.2.2.2.2.2.2.2.2.2.2.1)
                 have HS15_ := (hb.cell (World.block_lt_of_cell? _ _ (hHeld.2.2.2.2.2.2.2.2.2.2.2.2.2.2.2.1))).trans (hHeld.2.2.2.2.2.2.2.2.2.2.2.2.2.2.2.1)
                 have HS16_ := (hb.cell (World.block_lt_of_cell? _ _ (hHeld.2.2.2.2.2.2.2.2.2.2.2.2.2.2.2.2.1))).trans (hHeld.2.2.2.2.2.2.2.2.2.2.2.2.2.2.2.2.1)
                 have HS17_ := (hb.cell (World.block_lt_of_cell? _ _ (hHeld.2.2.2.2.2.2.2.2.2.2.2.2.2.2.2.2.2))).trans (hHeld.2.2.2.2.2.2.2.2.2.2.2.2.2.2.2.2.2)
                 have n0_ := Aside0.mk (Kd.R_below kz13_18 hb)
                 have n1_ := Aside0.mk (blk_below (g := gb443) (o := .cells #[.int .i64 x444000_3, .int .i64 x444001_3, .int .i64 x444002_3, .string x444003_3, .int .i64 x444004_3, .bool x444005_3] 28 (0, 0)) kz13_6 hb)
                 have n2_ := Aside0.mk (below_step kz13_2 hb)
                 have n3_ := Aside0.mk (hbox)
                 have n4_ := Aside0.mk ((by rw [hg]; exact (below_size kz13_2) : w.heap.size ≤ gb462))
                 have n5_ := Aside0.mk ((by rw [hg]; exact (below_size kz13_2) : w.heap.size ≤ gb462))
                 have n6_ := Aside0.mk ((by rw [hg]; exact Nat.ne_of_lt (blk_lt (g := gb443) (o := .cells #[.int .i64 x444000_3, .int .i64 x444001_3, .int .i64 x444002_3, .string x444003_3, .int .i64 x444004_3, .bool x444005_3] 28 (0, 0)) kz13_6) : gb443 ≠ gb462))
                 have n7_ := Aside0.mk ((by rw [hg]; exact Nat.ne_of_gt (blk_lt (g := gb443) (o := .cells #[.int .i64 x444000_3, .int .i64 x444001_3, .int .i64 x444002_3, .string x444003_3, .int .i64 x444004_3, .bool x444005_3] 28 (0, 0)) kz13_6) : gb462 ≠ gb443))
                 clear HO_7
                 clear BK443
                 clear HB
                 have HO_7 := n0_
                 have BK443 := n1_
                 have HB := n2_
                 have BK462 := n3_
                 have GW462 := n4_
                 have GE462 := n5_
                 have NB443_462 := n6_
                 have NB462_443 := n7_
                 clear n0_ n1_ n2_ n3_ n4_ n5_ n6_ n7_
                 clear hb hbox hg
                 refine hK.out _ _ ⟨HS0_, HS1_, HS2_, HS3_, HS4_, HS5_, HS6_, HS7_, HS8_, HS9_, HS10_, HS11_, HS12_, HS13_, HS14_, HS15_, HS16_, HS17_⟩ (fun hHeld => ?_)
                 clear hK K
                 refine norm_ (a' := ?_) ?_ ?_
                 rotate_left
                 ·show Act.put _ (some 9) _ = _
                  simp only [Act.put, sA_, sB_, sC_, i64_w, i32_w]
                  rfl
                 refine one_ (i := 27) (N := none) #[true, true, true, true, true, true, true, true, true, true, true, true, true, true, true, true, true, true, true, true, true, true, true, true, true, true, true, true] rfl rfl (one_of HT_.out (by kernel_rfl)) (by decide) (fun K hK => ?_)
                 have hs36 : w35.cell? ⟨gb462, 0, none⟩ = some (.int .i64 0) := (blk_cell BK462.out 0).trans rfl
                 have hfs36 := blk_frozen BK462.out 0
                 have hns36_0 := NB443_462.out
                 have hms36_0 := NB462_443.out
                 have hs37 : w35.cell? ⟨gb462, 1, none⟩ = some (.int .i64 0) := (blk_cell BK462.out 1).trans rfl
                 have hfs37 := blk_frozen BK462.out 1
                 have hns37_0 := NB443_462.out
                 have hms37_0 := NB462_443.out
                 have hs38 : w35.cell? ⟨gb462, 2, none⟩ = some (.int .i64 0) := (blk_cell BK462.out 2).trans rfl
                 have hfs38 := blk_frozen BK462.out 2
                 have hns38_0 := NB443_462.out
                 have hms38_0 := NB462_443.out
                 have hs39 : w35.cell? ⟨gb462, 3, none⟩ = some (.string (⟨#[]⟩ : ByteArray)) := (blk_cell BK462.out 3).trans rfl
                 have hfs39 := blk_frozen BK462.out 3
                 have hns39_0 := NB443_462.out
                 have hms39_0 := NB462_443.out
                 have hs40 : w35.cell? ⟨gb462, 4, none⟩ = some (.int .i64 0) := (blk_cell BK462.out 4).trans rfl
                 have hfs40 := blk_frozen BK462.out 4
                 have hns40_0 := NB443_462.out
                 have hms40_0 := NB462_443.out
                 have hs41 : w35.cell? ⟨gb462, 5, none⟩ = some (.bool false) := (blk_cell BK462.out 5).trans rfl
                 have hfs41 := blk_frozen BK462.out 5
                 have hns41_0 := NB443_462.out
                 have hms41_0 := NB462_443.out
                 refine skip_ (w1 := ?_) (by rfl) rfl ?_ ?_
                 rotate_left
                 ·go_simp
                  rfl
                 have hown_ : ad456.block ≠ gb462 := kz13_15
                 refine hK.out _ _ ?hS_ (fun hHeld => ?_)
                 case hS_ => exact ⟨cell_far6 hown_ hHeld.1, cell_far6 hown_ hHeld.2.1, cell_far6 hown_ hHeld.2.2.1, cell_far6 hown_ hHeld.2.2.2.1, cell_far6 hown_ hHeld.2.2.2.2.1, cell_far6 hown_ hHeld.2.2.2.2.2.1, cell_far6 hown_ hHeld.2.2.2.2.2.2.1, cell_far6 hown_ hHeld.2.2.2.2.2.2.2.1, cell_far6 hown_ hHeld.2.2.2.2.2.2.2.2.1, cell_far6 hown_ hHeld.2.2.2.2.2.2.2.2.2.1, cell_far6 hown_ hHeld.2.2.2.2.2.2.2.2.2.2.1, cell_far6 hown_ hHeld.2.2.2.2.2.2.2.2.2.2.2.1, cell_far6 hown_ hHeld.2.2.2.2.2.2.2.2.2.2.2.2.1, cell_far6 hown_ hHeld.2.2.2.2.2.2.2.2.2.2.2.2.2.1, cell_far6 hown_ hHeld.2.2.2.2.2.2.2.2.2.2.2.2.2.2.1, cell_far6 hown_ hHeld.2.2.2.2.2.2.2.2.2.2.2.2.2.2.2.1, cell_far6 hown_ hHeld.2.2.2.2.2.2.2.2.2.2.2.2.2.2.2.2.1, cell_far6 hown_ hHeld.2.2.2.2.2.2.2.2.2.2.2.2.2.2.2.2.2⟩
                 clear hown_
                 clear hK K
                 refine done_ (done_of HT_.out (by kernel_rfl)) ?_
                 have p463 : 0 ≤ (5 : Int) := (by omega)
                 have q463 : 5 < (t449.length : Int) := of_decide_eq_true kz13_4
                 obtain ⟨ad463, e463, hx463_0, hx463_1, hx463_2⟩ := at_T117 (Kd.R_reads' HO_7.out).2.2 5 p463 q463
                 obtain rfl : ad456 = ad463 := (by injection e463)
                 (try simp only [show (5 : Int).toNat = 5 from rfl, Nat.reduceMul, Nat.reduceEqDiff, Go.Addr.add, ↓reduceIte] at hx463_0)
                 (try simp only [show (5 : Int).toNat = 5 from rfl, Nat.reduceMul, Nat.reduceEqDiff, Go.Addr.add, ↓reduceIte] at hx463_1)
                 (try simp only [show (5 : Int).toNat = 5 from rfl, Nat.reduceMul, Nat.reduceEqDiff, Go.Addr.add, ↓reduceIte] at hx463_2)
                 have qi463 : (5 < t449.length) = True := eq_true (by omega)
                 (try rw [show ((5 : Int)).toNat = 5 from rfl] at hx463_0)
                 (try rw [show 5 * 3 = 15 from rfl] at hx463_0)
                 (try rw [show ((5 : Int)).toNat = 5 from rfl] at hx463_1)
                 (try rw [show 5 * 3 = 15 from rfl] at hx463_1)
                 (try rw [show ((5 : Int)).toNat = 5 from rfl] at hx463_2)
                 (try rw [show 5 * 3 = 15 from rfl] at hx463_2)
                 have hn463_0 : ad456.block ≠ gb462 := Kd.own_blk (Kd.R_ne HO_7.out BK462.out (by decide))
                 have hn463_1 : ad456.block ≠ gb462 := Kd.own_blk (Kd.R_ne HO_7.out BK462.out (by decide))
                 have hn463_2 : ad456.block ≠ gb462 := Kd.own_blk (Kd.R_ne HO_7.out BK462.out (by decide))
                 have hn463_3 : ad456.block ≠ gb462 := Kd.own_blk (Kd.R_ne HO_7.out BK462.out (by decide))
                 have hn463_4 : ad456.block ≠ gb462 := Kd.own_blk (Kd.R_ne HO_7.out BK462.out (by decide))
                 have hn463_5 : ad456.block ≠ gb462 := Kd.own_blk (Kd.R_ne HO_7.out BK462.out (by decide))
                 replace hx463_0 := (cell_far (p := ⟨gb462, 0, none⟩) kz13_12 (.int .i64 ((rd_T117 t449 0).f1))).trans hx463_0
                 replace hx463_1 := (cell_far (p := ⟨gb462, 0, none⟩) kz13_12 (.int .i64 ((rd_T117 t449 0).f1))).trans hx463_1
                 replace hx463_2 := (cell_far (p := ⟨gb462, 0, none⟩) kz13_12 (.int .i64 ((rd_T117 t449 0).f1))).trans hx463_2
                 replace hx463_0 := (cell_far (p := ⟨gb462, 1, none⟩) kz13_11 (.int .i64 ((rd_T117 t449 1).f1))).trans hx463_0
                 replace hx463_1 := (cell_far (p := ⟨gb462, 1, none⟩) kz13_11 (.int .i64 ((rd_T117 t449 1).f1))).trans hx463_1
                 replace hx463_2 := (cell_far (p := ⟨gb462, 1, none⟩) kz13_11 (.int .i64 ((rd_T117 t449 1).f1))).trans hx463_2
                 replace hx463_0 := (cell_far (p := ⟨gb462, 2, none⟩) kz13_10 (.int .i64 ((rd_T117 t449 2).f1))).trans hx463_0
                 replace hx463_1 := (cell_far (p := ⟨gb462, 2, none⟩) kz13_10 (.int .i64 ((rd_T117 t449 2).f1))).trans hx463_1
                 replace hx463_2 := (cell_far (p := ⟨gb462, 2, none⟩) kz13_10 (.int .i64 ((rd_T117 t449 2).f1))).trans hx463_2
                 replace hx463_0 := (cell_far (p := ⟨gb462, 3, none⟩) kz13_9 (.string ((rd_T117 t449 3).f2))).trans hx463_0
                 replace hx463_1 := (cell_far (p := ⟨gb462, 3, none⟩) kz13_9 (.string ((rd_T117 t449 3).f2))).trans hx463_1
                 replace hx463_2 := (cell_far (p := ⟨gb462, 3, none⟩) kz13_9 (.string ((rd_T117 t449 3).f2))).trans hx463_2
                 replace hx463_0 := (cell_far (p := ⟨gb462, 4, none⟩) kz13_8 (.int .i64 ((rd_T117 t449 4).f1))).trans hx463_0
                 replace hx463_1 := (cell_far (p := ⟨gb462, 4, none⟩) kz13_8 (.int .i64 ((rd_T117 t449 4).f1))).trans hx463_1
                 replace hx463_2 := (cell_far (p := ⟨gb462, 4, none⟩) kz13_8 (.int .i64 ((rd_T117 t449 4).f1))).trans hx463_2
                 replace hx463_0 := (cell_far (p := ⟨gb462, 5, none⟩) kz13_7 (.bool (((rd_T117 t449 5).f1) == 1))).trans hx463_0
                 replace hx463_1 := (cell_far (p := ⟨gb462, 5, none⟩) kz13_7 (.bool (((rd_T117 t449 5).f1) == 1))).trans hx463_1
                 replace hx463_2 := (cell_far (p := ⟨gb462, 5, none⟩) kz13_7 (.bool (((rd_T117 t449 5).f1) == 1))).trans hx463_2
                 clear hn463_0
                 clear hn463_1
                 clear hn463_2
                 clear hn463_3
                 clear hn463_4
                 clear hn463_5
                 replace p463 := eq_true p463
                 replace q463 := eq_true q463
                 have hnb42 := NB443_462.out
                 have hnc42 := NB462_443.out
                 have hcz43_0 : w35.cell? ⟨gb443, 0, none⟩ = some (.int .i64 x444000_3) := (blk_cell BK443.out 0).trans rfl
                 have hcz43_1 : w35.cell? ⟨gb443, 1, none⟩ = some (.int .i64 x444001_3) := (blk_cell BK443.out 1).trans rfl
                 have hcz43_2 : w35.cell? ⟨gb443, 2, none⟩ = some (.int .i64 x444002_3) := (blk_cell BK443.out 2).trans rfl
                 have hcz43_3 : w35.cell? ⟨gb443, 3, none⟩ = some (.string x444003_3) := (blk_cell BK443.out 3).trans rfl
                 have hcz43_4 : w35.cell? ⟨gb443, 4, none⟩ = some (.int .i64 x444004_3) := (blk_cell BK443.out 4).trans rfl
                 have hcz43_5 : w35.cell? ⟨gb443, 5, none⟩ = some (.bool x444005_3) := (blk_cell BK443.out 5).trans rfl
                 have hfz43_0 := blk_frozen BK443.out 0
                 have hfz43_1 := blk_frozen BK443.out 1
                 have hfz43_2 := blk_frozen BK443.out 2
                 have hfz43_3 := blk_frozen BK443.out 3
                 have hfz43_4 := blk_frozen BK443.out 4
                 have hfz43_5 := blk_frozen BK443.out 5
                 try go_wp2
                 refine bodyPost_ret (results_ct rfl _ _ gb443 28 #[.int .i64 0, .int .i64 0, .int .i64 0, .string (⟨#[]⟩ : ByteArray), .int .i64 0, .bool false] (0, 0) _ rfl (by (with_reducible repeat (first | refine blk_drewN ?_ _ | refine blk_drew ?_ | refine blk_alloc ?_ _)); refine blk_put (cs := #[.int .i64 0, .int .i64 0, .int .i64 0, .string (⟨#[]⟩ : ByteArray), .int .i64 0, .bool x444005_3]) ?_ 5 _ rfl; (with_reducible repeat (first | refine blk_drewN ?_ _ | refine blk_drew ?_ | refine blk_alloc ?_ _)); refine blk_put (cs := #[.int .i64 0, .int .i64 0, .int .i64 0, .string (⟨#[]⟩ : ByteArray), .int .i64 x444004_3, .bool x444005_3]) ?_ 4 _ rfl; (with_reducible repeat (first | refine blk_drewN ?_ _ | refine blk_drew ?_ | refine blk_alloc ?_ _)); refine blk_put (cs := #[.int .i64 0, .int .i64 0, .int .i64 0, .string x444003_3, .int .i64 x444004_3, .bool x444005_3]) ?_ 3 _ rfl; (with_reducible repeat (first | refine blk_drewN ?_ _ | refine blk_drew ?_ | refine blk_alloc ?_ _)); refine blk_put (cs := #[.int .i64 0, .int .i64 0, .int .i64 x444002_3, .string x444003_3, .int .i64 x444004_3, .bool x444005_3]) ?_ 2 _ rfl; (with_reducible repeat (first | refine blk_drewN ?_ _ | refine blk_drew ?_ | refine blk_alloc ?_ _)); refine blk_put (cs := #[.int .i64 0, .int .i64 x444001_3, .int .i64 x444002_3, .string x444003_3, .int .i64 x444004_3, .bool x444005_3]) ?_ 1 _ rfl; (with_reducible repeat (first | refine blk_drewN ?_ _ | refine blk_drew ?_ | refine blk_alloc ?_ _)); refine blk_put (cs := #[.int .i64 x444000_3, .int .i64 x444001_3, .int .i64 x444002_3, .string x444003_3, .int .i64 x444004_3, .bool x444005_3]) ?_ 0 _ rfl; (with_reducible repeat (first | refine blk_drewN ?_ _ | refine blk_drew ?_ | refine blk_alloc ?_ _)); refine blk_far ?_ NB443_462.out _; (with_reducible repeat (first | refine blk_drewN ?_ _ | refine blk_drew ?_ | refine blk_alloc ?_ _)); refine blk_far ?_ NB443_462.out _; (with_reducible repeat (first | refine blk_drewN ?_ _ | refine blk_drew ?_ | refine blk_alloc ?_ _)); refine blk_far ?_ NB443_462.out _; (with_reducible repeat (first | refine blk_drewN ?_ _ | refine blk_drew ?_ | refine blk_alloc ?_ _)); refine blk_far ?_ NB443_462.out _; (with_reducible repeat (first | refine blk_drewN ?_ _ | refine blk_drew ?_ | refine blk_alloc ?_ _)); refine blk_far ?_ NB443_462.out _; (with_reducible repeat (first | refine blk_drewN ?_ _ | refine blk_drew ?_ | refine blk_alloc ?_ _)); refine blk_far ?_ NB443_462.out _; (with_reducible repeat (first | refine blk_drewN ?_ _ | refine blk_drew ?_ | refine blk_alloc ?_ _)); exact BK443.out) Try.underlying28 rfl (by kernel_rfl)) rfl ?_
                 exact ⟨by first | rfl | (simp [errW_none, errW_some] <;> rfl) | (simp [*, errW_none, errW_some] <;> rfl), by repeat (first | (with_reducible first | exact HB.out | apply below_alloc | apply pw_below_drewN | apply below_drew1 | refine below_set ?_ GE443.out | refine below_set ?_ GE462.out) | exact HB.out)⟩
                ·rw [if_neg c33] at H
                 have c33b0 : decide (1 < ((rd_T117 t449 5).f1)) = false := decide_eq_false c33
                 clear c33
                 replace H := Option.bind_eq_some_iff.mp H
                 obtain ⟨t464, A440, H⟩ := H
                 replace H : (if t464 = true then (some ((rd_T117 t449 0).f1, (rd_T117 t449 1).f1, (rd_T117 t449 2).f1, (rd_T117 t449 3).f2, (rd_T117 t449 4).f1, (((rd_T117 t449 5).f1) == 1), 0)) else (some (0, 0, 0, (⟨#[]⟩ : ByteArray), 0, false, 2))) = some (r1, r2, r3, r4, r5, r6, r7) := H
                 have A44 := Aside0.mk A440
                 clear A440
                 by_cases c45 : t464 = true
                 ·subst c45
                  have H1 : (some ((rd_T117 t449 0).f1, (rd_T117 t449 1).f1, (rd_T117 t449 2).f1, (rd_T117 t449 3).f2, (rd_T117 t449 4).f1, (((rd_T117 t449 5).f1) == 1), 0)) = some (r1, r2, r3, r4, r5, r6, r7) := by rw [if_pos rfl] at H; exact H
                  clear H
                  have H := H1
                  clear H1
                  simp only [Option.some.injEq, Prod.mk.injEq] at H
                  obtain ⟨rfl, rfl, rfl, rfl, rfl, rfl, rfl⟩ := H
                  try go_wp2
                  have n0_ := Aside0.mk (Kd.R_drew HO_7.out)
                  have n1_ := Aside0.mk (blk_drew BK443.out)
                  have n2_ := Aside0.mk (below_drew1 HB.out)
                  clear HO_7
                  clear BK443
                  clear HB
                  have HO_7 := n0_
                  have BK443 := n1_
                  have HB := n2_
                  clear n0_ n1_ n2_
                  have p456 : 0 ≤ (0 : Int) := (by omega)
                  have q456 : 0 < (t449.length : Int) := of_decide_eq_true kz13_4
                  obtain ⟨ad456, e456, hx456_0, hx456_1, hx456_2⟩ := at_T117 (Kd.R_reads' HO_7.out).2.2 0 p456 q456
                  cases e456
                  have qi456 : (0 < t449.length) = True := eq_true (by omega)
                  (try rw [show ((0 : Int)).toNat = 0 from rfl] at hx456_0)
                  (try rw [show 0 * 3 = 0 from rfl] at hx456_0)
                  (try rw [Addr.add_zero'] at hx456_0)
                  (try rw [show ((0 : Int)).toNat = 0 from rfl] at hx456_1)
                  (try rw [show 0 * 3 = 0 from rfl] at hx456_1)
                  (try rw [Addr.add_zero'] at hx456_1)
                  (try rw [show ((0 : Int)).toNat = 0 from rfl] at hx456_2)
                  (try rw [show 0 * 3 = 0 from rfl] at hx456_2)
                  (try rw [Addr.add_zero'] at hx456_2)
                  replace p456 := eq_true p456
                  replace q456 := eq_true q456
                  have p457 : 0 ≤ (1 : Int) := (by omega)
                  have q457 : 1 < (t449.length : Int) := of_decide_eq_true kz13_4
                  obtain ⟨ad457, e457, hx457_0, hx457_1, hx457_2⟩ := at_T117 (Kd.R_reads' HO_7.out).2.2 1 p457 q457
                  obtain rfl : ad456 = ad457 := (by injection e457)
                  (try simp only [show (1 : Int).toNat = 1 from rfl, Nat.reduceMul, Nat.reduceEqDiff, Go.Addr.add, ↓reduceIte] at hx457_0)
                  (try simp only [show (1 : Int).toNat = 1 from rfl, Nat.reduceMul, Nat.reduceEqDiff, Go.Addr.add, ↓reduceIte] at hx457_1)
                  (try simp only [show (1 : Int).toNat = 1 from rfl, Nat.reduceMul, Nat.reduceEqDiff, Go.Addr.add, ↓reduceIte] at hx457_2)
                  have qi457 : (1 < t449.length) = True := eq_true (by omega)
                  (try rw [show ((1 : Int)).toNat = 1 from rfl] at hx457_0)
                  (try rw [show 1 * 3 = 3 from rfl] at hx457_0)
                  (try rw [show ((1 : Int)).toNat = 1 from rfl] at hx457_1)
                  (try rw [show 1 * 3 = 3 from rfl] at hx457_1)
                  (try rw [show ((1 : Int)).toNat = 1 from rfl] at hx457_2)
                  (try rw [show 1 * 3 = 3 from rfl] at hx457_2)
                  replace p457 := eq_true p457
                  replace q457 := eq_true q457
                  have p458 : 0 ≤ (2 : Int) := (by omega)
                  have q458 : 2 < (t449.length : Int) := of_decide_eq_true kz13_4
                  obtain ⟨ad458, e458, hx458_0, hx458_1, hx458_2⟩ := at_T117 (Kd.R_reads' HO_7.out).2.2 2 p458 q458
                  obtain rfl : ad456 = ad458 := (by injection e458)
                  (try simp only [show (2 : Int).toNat = 2 from rfl, Nat.reduceMul, Nat.reduceEqDiff, Go.Addr.add, ↓reduceIte] at hx458_0)
                  (try simp only [show (2 : Int).toNat = 2 from rfl, Nat.reduceMul, Nat.reduceEqDiff, Go.Addr.add, ↓reduceIte] at hx458_1)
                  (try simp only [show (2 : Int).toNat = 2 from rfl, Nat.reduceMul, Nat.reduceEqDiff, Go.Addr.add, ↓reduceIte] at hx458_2)
                  have qi458 : (2 < t449.length) = True := eq_true (by omega)
                  (try rw [show ((2 : Int)).toNat = 2 from rfl] at hx458_0)
                  (try rw [show 2 * 3 = 6 from rfl] at hx458_0)
                  (try rw [show ((2 : Int)).toNat = 2 from rfl] at hx458_1)
                  (try rw [show 2 * 3 = 6 from rfl] at hx458_1)
                  (try rw [show ((2 : Int)).toNat = 2 from rfl] at hx458_2)
                  (try rw [show 2 * 3 = 6 from rfl] at hx458_2)
                  replace p458 := eq_true p458
                  replace q458 := eq_true q458
                  have p459 : 0 ≤ (3 : Int) := (by omega)
                  have q459 : 3 < (t449.length : Int) := of_decide_eq_true kz13_4
                  obtain ⟨ad459, e459, hx459_0, hx459_1, hx459_2⟩ := at_T117 (Kd.R_reads' HO_7.out).2.2 3 p459 q459
                  obtain rfl : ad456 = ad459 := (by injection e459)
                  (try simp only [show (3 : Int).toNat = 3 from rfl, Nat.reduceMul, Nat.reduceEqDiff, Go.Addr.add, ↓reduceIte] at hx459_0)
                  (try simp only [show (3 : Int).toNat = 3 from rfl, Nat.reduceMul, Nat.reduceEqDiff, Go.Addr.add, ↓reduceIte] at hx459_1)
                  (try simp only [show (3 : Int).toNat = 3 from rfl, Nat.reduceMul, Nat.reduceEqDiff, Go.Addr.add, ↓reduceIte] at hx459_2)
                  have qi459 : (3 < t449.length) = True := eq_true (by omega)
                  (try rw [show ((3 : Int)).toNat = 3 from rfl] at hx459_0)
                  (try rw [show 3 * 3 = 9 from rfl] at hx459_0)
                  (try rw [show ((3 : Int)).toNat = 3 from rfl] at hx459_1)
                  (try rw [show 3 * 3 = 9 from rfl] at hx459_1)
                  (try rw [show ((3 : Int)).toNat = 3 from rfl] at hx459_2)
                  (try rw [show 3 * 3 = 9 from rfl] at hx459_2)
                  replace p459 := eq_true p459
                  replace q459 := eq_true q459
                  have p460 : 0 ≤ (4 : Int) := (by omega)
                  have q460 : 4 < (t449.length : Int) := of_decide_eq_true kz13_4
                  obtain ⟨ad460, e460, hx460_0, hx460_1, hx460_2⟩ := at_T117 (Kd.R_reads' HO_7.out).2.2 4 p460 q460
                  obtain rfl : ad456 = ad460 := (by injection e460)
                  (try simp only [show (4 : Int).toNat = 4 from rfl, Nat.reduceMul, Nat.reduceEqDiff, Go.Addr.add, ↓reduceIte] at hx460_0)
                  (try simp only [show (4 : Int).toNat = 4 from rfl, Nat.reduceMul, Nat.reduceEqDiff, Go.Addr.add, ↓reduceIte] at hx460_1)
                  (try simp only [show (4 : Int).toNat = 4 from rfl, Nat.reduceMul, Nat.reduceEqDiff, Go.Addr.add, ↓reduceIte] at hx460_2)
                  have qi460 : (4 < t449.length) = True := eq_true (by omega)
                  (try rw [show ((4 : Int)).toNat = 4 from rfl] at hx460_0)
                  (try rw [show 4 * 3 = 12 from rfl] at hx460_0)
                  (try rw [show ((4 : Int)).toNat = 4 from rfl] at hx460_1)
                  (try rw [show 4 * 3 = 12 from rfl] at hx460_1)
                  (try rw [show ((4 : Int)).toNat = 4 from rfl] at hx460_2)
                  (try rw [show 4 * 3 = 12 from rfl] at hx460_2)
                  replace p460 := eq_true p460
                  replace q460 := eq_true q460
                  have p461 : 0 ≤ (5 : Int) := (by omega)
                  have q461 : 5 < (t449.length : Int) := of_decide_eq_true kz13_4
                  obtain ⟨ad461, e461, hx461_0, hx461_1, hx461_2⟩ := at_T117 (Kd.R_reads' HO_7.out).2.2 5 p461 q461
                  obtain rfl : ad456 = ad461 := (by injection e461)
                  (try simp only [show (5 : Int).toNat = 5 from rfl, Nat.reduceMul, Nat.reduceEqDiff, Go.Addr.add, ↓reduceIte] at hx461_0)
                  (try simp only [show (5 : Int).toNat = 5 from rfl, Nat.reduceMul, Nat.reduceEqDiff, Go.Addr.add, ↓reduceIte] at hx461_1)
                  (try simp only [show (5 : Int).toNat = 5 from rfl, Nat.reduceMul, Nat.reduceEqDiff, Go.Addr.add, ↓reduceIte] at hx461_2)
                  have qi461 : (5 < t449.length) = True := eq_true (by omega)
                  (try rw [show ((5 : Int)).toNat = 5 from rfl] at hx461_0)
                  (try rw [show 5 * 3 = 15 from rfl] at hx461_0)
                  (try rw [show ((5 : Int)).toNat = 5 from rfl] at hx461_1)
                  (try rw [show 5 * 3 = 15 from rfl] at hx461_1)
                  (try rw [show ((5 : Int)).toNat = 5 from rfl] at hx461_2)
                  (try rw [show 5 * 3 = 15 from rfl] at hx461_2)
                  replace p461 := eq_true p461
                  replace q461 := eq_true q461
                  refine start_ (n := 28) (S := fun w' => w'.cell? ad456 = some (.bool ((rd_T117 t449 0).f0)) ∧ w'.cell? ⟨ad456.block, ad456.off + 1, none⟩ = some (.int .i64 ((rd_T117 t449 0).f1)) ∧ w'.cell? ⟨ad456.block, ad456.off + 2, none⟩ = some (.string ((rd_T117 t449 0).f2)) ∧ w'.cell? ⟨ad456.block, ad456.off + 3, none⟩ = some (.bool ((rd_T117 t449 1).f0)) ∧ w'.cell? ⟨ad456.block, ad456.off + 3 + 1, none⟩ = some (.int .i64 ((rd_T117 t449 1).f1)) ∧ w'.cell? ⟨ad456.block, ad456.off + 3 + 2, none⟩ = some (.string ((rd_T117 t449 1).f2)) ∧ w'.cell? ⟨ad456.block, ad456.off + 6, none⟩ = some (.bool ((rd_T117 t449 2).f0)) ∧ w'.cell? ⟨ad456.block, ad456.off + 6 + 1, none⟩ = some (.int .i64 ((rd_T117 t449 2).f1)) ∧ w'.cell? ⟨ad456.block, ad456.off + 6 + 2, none⟩ = some (.string ((rd_T117 t449 2).f2)) ∧ w'.cell? ⟨ad456.block, ad456.off + 9, none⟩ = some (.bool ((rd_T117 t449 3).f0)) ∧ w'.cell? ⟨ad456.block, ad456.off + 9 + 1, none⟩ = some (.int .i64 ((rd_T117 t449 3).f1)) ∧ w'.cell? ⟨ad456.block, ad456.off + 9 + 2, none⟩ = some (.string ((rd_T117 t449 3).f2)) ∧ w'.cell? ⟨ad456.block, ad456.off + 12, none⟩ = some (.bool ((rd_T117 t449 4).f0)) ∧ w'.cell? ⟨ad456.block, ad456.off + 12 + 1, none⟩ = some (.int .i64 ((rd_T117 t449 4).f1)) ∧ w'.cell? ⟨ad456.block, ad456.off + 12 + 2, none⟩ = some (.string ((rd_T117 t449 4).f2)) ∧ w'.cell? ⟨ad456.block, ad456.off + 15, none⟩ = some (.bool ((rd_T117 t449 5).f0)) ∧ w'.cell? ⟨ad456.block, ad456.off + 15 + 1, none⟩ = some (.int .i64 ((rd_T117 t449 5).f1)) ∧ w'.cell? ⟨ad456.block, ad456.off + 15 + 2, none⟩ = some (.string ((rd_T117 t449 5).f2))) (ds := []) #[false, false, false, false, false, false, false, false, false, false, false, false, false, false, false, false, false, false, false, false, false, false, false, false, false, false, false, false] (by kernel_rfl) rfl rfl ⟨hx456_0, hx456_1, hx456_2, hx457_0, hx457_1, hx457_2, hx458_0, hx458_1, hx458_2, hx459_0, hx459_1, hx459_2, hx460_0, hx460_1, hx460_2, hx461_0, hx461_1, hx461_2⟩ (fun hHeld => ?_); refine with_tabW tumbrelref18_Decode.tab13 tumbrelref18_Decode.bits13 (fun HT_ HW_ => ?_)
                  generalize wr.drew = w46 at HO_7 BK443 HB hx456_0 hx456_1 hx456_2 hx457_0 hx457_1 hx457_2 hx458_0 hx458_1 hx458_2 hx459_0 hx459_1 hx459_2 hx460_0 hx460_1 hx460_2 hx461_0 hx461_1 hx461_2 hHeld ⊢
                  refine pure_ (i := 0) (N := some 69) (v := ?_) (a' := ?_) #[true, false, false, false, false, false, false, false, false, false, false, false, false, false, false, false, false, false, false, false, false, false, false, false, false, false, false, false] rfl rfl (any_of HT_.out (by kernel_rfl)) (fun _ _ _ h => h) (Or.inl ⟨by rfl, ?_⟩) ?_ ?_
                  rotate_left
                  ·intro w'
                   go_simp
                   with_reducible rfl
                  rotate_left
                  ·simp only [Act.put, sA_, sB_, sC_, i64_w, i32_w]
                   rfl
                  refine pure_ (i := 1) (N := some 70) (v := ?_) (a' := ?_) #[true, true, false, false, false, false, false, false, false, false, false, false, false, false, false, false, false, false, false, false, false, false, false, false, false, false, false, false] rfl rfl (any_of HT_.out (by kernel_rfl)) (fun _ _ _ h => h) (Or.inl ⟨by rfl, ?_⟩) ?_ ?_
                  rotate_left
                  ·intro w'
                   go_simp
                   with_reducible rfl
                  rotate_left
                  ·simp only [Act.put, sA_, sB_, sC_, i64_w, i32_w]
                   rfl
                  refine pure_ (i := 2) (N := some 71) (v := ?_) (a' := ?_) #[true, true, true, false, false, false, false, false, false, false, false, false, false, false, false, false, false, false, false, false, false, false, false, false, false, false, false, false] rfl rfl (any_of HT_.out (by kernel_rfl)) (fun _ _ _ h => h) (Or.inl ⟨by rfl, ?_⟩) ?_ ?_
                  rotate_left
                  ·intro w'
                   go_simp
                   with_reducible rfl
                  rotate_left
                  ·simp only [Act.put, sA_, sB_, sC_, i64_w, i32_w]
                   rfl
                  refine pure_ (i := 4) (N := some 73) (v := ?_) (a' := ?_) #[true, true, true, false, true, false, false, false, false, false, false, false, false, false, false, false, false, false, false, false, false, false, false, false, false, false, false, false] rfl rfl (any_of HT_.out (by kernel_rfl)) (fun _ _ _ h => h) (Or.inl ⟨by rfl, ?_⟩) ?_ ?_
                  rotate_left
                  ·intro w'
                   go_simp
                   with_reducible rfl
                  rotate_left
                  ·simp only [Act.put, sA_, sB_, sC_, i64_w, i32_w]
                   rfl
                  refine pure_ (i := 5) (N := some 74) (v := ?_) (a' := ?_) #[true, true, true, false, true, true, false, false, false, false, false, false, false, false, false, false, false, false, false, false, false, false, false, false, false, false, false, false] rfl rfl (any_of HT_.out (by kernel_rfl)) (fun _ _ _ h => h) (Or.inl ⟨by rfl, ?_⟩) ?_ ?_
                  rotate_left
                  ·intro w'
                   go_simp
                   with_reducible rfl
                  rotate_left
                  ·simp only [Act.put, sA_, sB_, sC_, i64_w, i32_w]
                   rfl
                  refine pure_ (i := 6) (N := some 75) (v := ?_) (a' := ?_) #[true, true, true, false, true, true, true, false, false, false, false, false, false, false, false, false, false, false, false, false, false, false, false, false, false, false, false, false] rfl rfl (any_of HT_.out (by kernel_rfl)) (fun _ _ _ h => h) (Or.inl ⟨by rfl, ?_⟩) ?_ ?_
                  rotate_left
                  ·intro w'
                   go_simp
                   with_reducible rfl
                  rotate_left
                  ·simp only [Act.put, sA_, sB_, sC_, i64_w, i32_w]
                   rfl
                  refine pure_ (i := 8) (N := some 77) (v := ?_) (a' := ?_) #[true, true, true, false, true, true, true, false, true, false, false, false, false, false, false, false, false, false, false, false, false, false, false, false, false, false, false, false] rfl rfl (any_of HT_.out (by kernel_rfl)) (fun _ _ _ h => h) (Or.inl ⟨by rfl, ?_⟩) ?_ ?_
                  rotate_left
                  ·intro w'
                   go_simp
                   with_reducible rfl
                  rotate_left
                  ·simp only [Act.put, sA_, sB_, sC_, i64_w, i32_w]
                   rfl
                  refine pure_ (i := 9) (N := some 78) (v := ?_) (a' := ?_) #[true, true, true, false, true, true, true, false, true, true, false, false, false, false, false, false, false, false, false, false, false, false, false, false, false, false, false, false] rfl rfl (any_of HT_.out (by kernel_rfl)) (fun _ _ _ h => h) (Or.inl ⟨by rfl, ?_⟩) ?_ ?_
                  rotate_left
                  ·intro w'
                   go_simp
                   with_reducible rfl
                  rotate_left
                  ·simp only [Act.put, sA_, sB_, sC_, i64_w, i32_w]
                   rfl
                  refine pure_ (i := 10) (N := some 79) (v := ?_) (a' := ?_) #[true, true, true, false, true, true, true, false, true, true, true, false, false, false, false, false, false, false, false, false, false, false, false, false, false, false, false, false] rfl rfl (any_of HT_.out (by kernel_rfl)) (fun _ _ _ h => h) (Or.inl ⟨by rfl, ?_⟩) ?_ ?_
                  rotate_left
                  ·intro w'
                   go_simp
                   with_reducible rfl
                  rotate_left
                  ·simp only [Act.put, sA_, sB_, sC_, i64_w, i32_w]
                   rfl
                  refine pure_ (i := 12) (N := some 81) (v := ?_) (a' := ?_) #[true, true, true, false, true, true, true, false, true, true, true, false, true, false, false, false, false, false, false, false, false, false, false, false, false, false, false, false] rfl rfl (any_of HT_.out (by kernel_rfl)) (fun _ _ _ h => h) (Or.inl ⟨by rfl, ?_⟩) ?_ ?_
                  rotate_left
                  ·intro w'
                   go_simp
                   with_reducible rfl
                  rotate_left
                  ·simp only [Act.put, sA_, sB_, sC_, i64_w, i32_w]
                   rfl
                  refine pure_ (i := 13) (N := some 82) (v := ?_) (a' := ?_) #[true, true, true, false, true, true, true, false, true, true, true, false, true, true, false, false, false, false, false, false, false, false, false, false, false, false, false, false] rfl rfl (any_of HT_.out (by kernel_rfl)) (fun _ _ _ h => h) (Or.inl ⟨by rfl, ?_⟩) ?_ ?_
                  rotate_left
                  ·intro w'
                   go_simp
                   with_reducible rfl
                  rotate_left
                  ·simp only [Act.put, sA_, sB_, sC_, i64_w, i32_w]
                   rfl
                  refine pure_ (i := 14) (N := some 83) (v := ?_) (a' := ?_) #[true, true, true, false, true, true, true, false, true, true, true, false, true, true, true, false, false, false, false, false, false, false, false, false, false, false, false, false] rfl rfl (any_of HT_.out (by kernel_rfl)) (fun _ _ _ h => h) (Or.inl ⟨by rfl, ?_⟩) ?_ ?_
                  rotate_left
                  ·intro w'
                   go_simp
                   with_reducible rfl
                  rotate_left
                  ·simp only [Act.put, sA_, sB_, sC_, i64_w, i32_w]
                   rfl
                  refine pure_ (i := 16) (N := some 85) (v := ?_) (a' := ?_) #[true, true, true, false, true, true, true, false, true, true, true, false, true, true, true, false, true, false, false, false, false, false, false, false, false, false, false, false] rfl rfl (any_of HT_.out (by kernel_rfl)) (fun _ _ _ h => h) (Or.inl ⟨by rfl, ?_⟩) ?_ ?_
                  rotate_left
                  ·intro w'
                   go_simp
                   with_reducible rfl
                  rotate_left
                  ·simp only [Act.put, sA_, sB_, sC_, i64_w, i32_w]
                   rfl
                  refine pure_ (i := 17) (N := some 86) (v := ?_) (a' := ?_) #[true, true, true, false, true, true, true, false, true, true, true, false, true, true, true, false, true, true, false, false, false, false, false, false, false, false, false, false] rfl rfl (any_of HT_.out (by kernel_rfl)) (fun _ _ _ h => h) (Or.inl ⟨by rfl, ?_⟩) ?_ ?_
                  rotate_left
                  ·intro w'
                   go_simp
                   with_reducible rfl
                  rotate_left
                  ·simp only [Act.put, sA_, sB_, sC_, i64_w, i32_w]
                   rfl
                  refine pure_ (i := 18) (N := some 87) (v := ?_) (a' := ?_) #[true, true, true, false, true, true, true, false, true, true, true, false, true, true, true, false, true, true, true, false, false, false, false, false, false, false, false, false] rfl rfl (any_of HT_.out (by kernel_rfl)) (fun _ _ _ h => h) (Or.inl ⟨by rfl, ?_⟩) ?_ ?_
                  rotate_left
                  ·intro w'
                   go_simp
                   with_reducible rfl
                  rotate_left
                  ·simp only [Act.put, sA_, sB_, sC_, i64_w, i32_w]
                   rfl
                  refine pure_ (i := 20) (N := some 89) (v := ?_) (a' := ?_) #[true, true, true, false, true, true, true, false, true, true, true, false, true, true, true, false, true, true, true, false, true, false, false, false, false, false, false, false] rfl rfl (any_of HT_.out (by kernel_rfl)) (fun _ _ _ h => h) (Or.inl ⟨by rfl, ?_⟩) ?_ ?_
                  rotate_left
                  ·intro w'
                   go_simp
                   with_reducible rfl
                  rotate_left
                  ·simp only [Act.put, sA_, sB_, sC_, i64_w, i32_w]
                   rfl
                  refine pure_ (i := 21) (N := some 90) (v := ?_) (a' := ?_) #[true, true, true, false, true, true, true, false, true, true, true, false, true, true, true, false, true, true, true, false, true, true, false, false, false, false, false, false] rfl rfl (any_of HT_.out (by kernel_rfl)) (fun _ _ _ h => h) (Or.inl ⟨by rfl, ?_⟩) ?_ ?_
                  rotate_left
                  ·intro w'
                   go_simp
                   with_reducible rfl
                  rotate_left
                  ·simp only [Act.put, sA_, sB_, sC_, i64_w, i32_w]
                   rfl
                  refine pure_ (i := 22) (N := some 91) (v := ?_) (a' := ?_) #[true, true, true, false, true, true, true, false, true, true, true, false, true, true, true, false, true, true, true, false, true, true, true, false, false, false, false, false] rfl rfl (any_of HT_.out (by kernel_rfl)) (fun _ _ _ h => h) (Or.inl ⟨by rfl, ?_⟩) ?_ ?_
                  rotate_left
                  ·intro w'
                   go_simp
                   with_reducible rfl
                  rotate_left
                  ·simp only [Act.put, sA_, sB_, sC_, i64_w, i32_w]
                   rfl
                  refine take_ (i := 3) (N := some 72) (v := ?_) (a' := ?_) #[true, true, true, true, true, true, true, false, true, true, true, false, true, true, true, false, true, true, true, false, true, true, true, false, false, false, false, false] rfl rfl (take_ofW HT_.out HW_.out (by kernel_rfl)) (fun _ _ _ h => h) (Or.inl ⟨by rfl, ?_⟩) hHeld ?_ ?_
                  rotate_left
                  ·rintro w' ⟨s0, s1, s2, s3, s4, s5, s6, s7, s8, s9, s10, s11, s12, s13, s14, s15, s16, s17⟩
                   go_simp
                   with_reducible rfl
                  rotate_left
                  ·simp only [Act.put, sA_, sB_, sC_, i64_w, i32_w]
                   rfl
                  refine take_ (i := 7) (N := some 76) (v := ?_) (a' := ?_) #[true, true, true, true, true, true, true, true, true, true, true, false, true, true, true, false, true, true, true, false, true, true, true, false, false, false, false, false] rfl rfl (take_ofW HT_.out HW_.out (by kernel_rfl)) (fun _ _ _ h => h) (Or.inl ⟨by rfl, ?_⟩) hHeld ?_ ?_
                  rotate_left
                  ·rintro w' ⟨s0, s1, s2, s3, s4, s5, s6, s7, s8, s9, s10, s11, s12, s13, s14, s15, s16, s17⟩
                   go_simp
                   with_reducible rfl
                  rotate_left
                  ·simp only [Act.put, sA_, sB_, sC_, i64_w, i32_w]
                   rfl
                  refine take_ (i := 11) (N := some 80) (v := ?_) (a' := ?_) #[true, true, true, true, true, true, true, true, true, true, true, true, true, true, true, false, true, true, true, false, true, true, true, false, false, false, false, false] rfl rfl (take_ofW HT_.out HW_.out (by kernel_rfl)) (fun _ _ _ h => h) (Or.inl ⟨by rfl, ?_⟩) hHeld ?_ ?_
                  rotate_left
                  ·rintro w' ⟨s0, s1, s2, s3, s4, s5, s6, s7, s8, s9, s10, s11, s12, s13, s14, s15, s16, s17⟩
                   go_simp
                   with_reducible rfl
                  rotate_left
                  ·simp only [Act.put, sA_, sB_, sC_, i64_w, i32_w]
                   rfl
                  refine take_ (i := 15) (N := some 84) (v := ?_) (a' := ?_) #[true, true, true, true, true, true, true, true, true, true, true, true, true, true, true, true, true, true, true, false, true, true, true, false, false, false, false, false] rfl rfl (take_ofW HT_.out HW_.out (by kernel_rfl)) (fun _ _ _ h => h) (Or.inl ⟨by rfl, ?_⟩) hHeld ?_ ?_
                  rotate_left
                  ·rintro w' ⟨s0, s1, s2, s3, s4, s5, s6, s7, s8, s9, s10, s11, s12, s13, s14, s15, s16, s17⟩
                   go_simp
                   with_reducible rfl
                  rotate_left
                  ·simp only [Act.put, sA_, sB_, sC_, i64_w, i32_w]
                   rfl
                  refine take_ (i := 19) (N := some 88) (v := ?_) (a' := ?_) #[true, true, true, true, true, true, true, true, true, true, true, true, true, true, true, true, true, true, true, true, true, true, true, false, false, false, false, false] rfl rfl (take_ofW HT_.out HW_.out (by kernel_rfl)) (fun _ _ _ h => h) (Or.inl ⟨by rfl, ?_⟩) hHeld ?_ ?_
                  rotate_left
                  ·rintro w' ⟨s0, s1, s2, s3, s4, s5, s6, s7, s8, s9, s10, s11, s12, s13, s14, s15, s16, s17⟩
                   go_simp
                   with_reducible rfl
                  rotate_left
                  ·simp only [Act.put, sA_, sB_, sC_, i64_w, i32_w]
                   rfl
                  refine take_ (i := 23) (N := some 92) (v := ?_) (a' := ?_) #[true, true, true, true, true, true, true, true, true, true, true, true, true, true, true, true, true, true, true, true, true, true, true, true, false, false, false, false] rfl rfl (take_ofW HT_.out HW_.out (by kernel_rfl)) (fun _ _ _ h => h) (Or.inl ⟨by rfl, ?_⟩) hHeld ?_ ?_
                  rotate_left
                  ·rintro w' ⟨s0, s1, s2, s3, s4, s5, s6, s7, s8, s9, s10, s11, s12, s13, s14, s15, s16, s17⟩
                   go_simp
                   with_reducible rfl
                  rotate_left
                  ·simp only [Act.put, sA_, sB_, sC_, i64_w, i32_w]
                   rfl
                  refine pure_ (i := 24) (N := some 93) (v := ?_) (a' := ?_) #[true, true, true, true, true, true, true, true, true, true, true, true, true, true, true, true, true, true, true, true, true, true, true, true, true, false, false, false] rfl rfl (any_of HT_.out (by kernel_rfl)) (fun _ _ _ h => h) (Or.inl ⟨by rfl, ?_⟩) ?_ ?_
                  rotate_left
                  ·intro w'
                   go_simp
                   with_reducible rfl
                  rotate_left
                  ·simp only [Act.put, sA_, sB_, sC_, i64_w, i32_w]
                   rfl
                  refine pure_ (i := 25) (N := some 94) (v := ?_) (a' := ?_) #[true, true, true, true, true, true, true, true, true, true, true, true, true, true, true, true, true, true, true, true, true, true, true, true, true, true, false, false] rfl rfl (any_of HT_.out (by kernel_rfl)) (fun _ _ _ h => h) (Or.inl ⟨by rfl, ?_⟩) ?_ ?_
                  rotate_left
                  ·intro w'
                   go_simp
                   with_reducible rfl
                  rotate_left
                  ·simp only [Act.put, sA_, sB_, sC_, i64_w, i32_w]
                   rfl
                  refine one_ (i := 26) (N := some 9) #[true, true, true, true, true, true, true, true, true, true, true, true, true, true, true, true, true, true, true, true, true, true, true, true, true, true, true, false] rfl rfl (one_of HT_.out (by kernel_rfl)) (by decide) (fun K hK => ?_)
                  refine box_step ?hg (N := 9) ?hd (cs := #[.int .i64 0, .int .i64 0, .int .i64 0, .string (⟨#[]⟩ : ByteArray), .int .i64 0, .bool false]) (t := 28) ?hr ?_; (case hd => rfl); (case hg => rfl); (case hr => first | (go_simp; done) | (go_simp; rfl))
                  intro gb462 hg w47 hbox hb
                  have HS0_ := (hb.cell (World.block_lt_of_cell? _ _ (hHeld.1))).trans (hHeld.1)
                  have HS1_ := (hb.cell (World.block_lt_of_cell? _ _ (hHeld.2.1))).trans (hHeld.2.1)
                  have HS2_ := (hb.cell (World.block_lt_of_cell? _ _ (hHeld.2.2.1))).trans (hHeld.2.2.1)
                  have HS3_ := (hb.cell (World.block_lt_of_cell? _ _ (hHeld.2.2.2.1))).trans (hHeld.2.2.2.1)
                  have HS4_ := (hb.cell (World.block_lt_of_cell? _ _ (hHeld.2.2.2.2.1))).trans (hHeld.2.2.2.2.1)
                  have HS5_ := (hb.cell (World.block_lt_of_cell? _ _ (hHeld.2.2.2.2.2.1))).trans (hHeld.2.2.2.2.2.1)
                  have HS6_ := (hb.cell (World.block_lt_of_cell? _ _ (hHeld.2.2.2.2.2.2.1))).trans (hHeld.2.2.2.2.2.2.1)
                  have HS7_ := (hb.cell (World.block_lt_of_cell? _ _ (hHeld.2.2.2.2.2.2.2.1))).trans (hHeld.2.2.2.2.2.2.2.1)
                  have HS8_ := (hb.cell (World.block_lt_of_cell? _ _ (hHeld.2.2.2.2.2.2.2.2.1))).trans (hHeld.2.2.2.2.2.2.2.2.1)
                  have HS9_ := (hb.cell (World.block_lt_of_cell? _ _ (hHeld.2.2.2.2.2.2.2.2.2.1))).trans (hHeld.2.2.2.2.2.2.2.2.2.1)
                  have HS10_ := (hb.cell (World.block_lt_of_cell? _ _ (hHeld.2.2.2.2.2.2.2.2.2.2.1))).trans (hHeld.2.2.2.2.2.2.2.2.2.2.1)
                  have HS11_ := (hb.cell (World.block_lt_of_cell? _ _ (hHeld.2.2.2.2.2.2.2.2.2.2.2.1))).trans (hHeld.2.2.2.2.2.2.2.2.2.2.2.1)
                  have HS12_ := (hb.cell (World.block_lt_of_cell? _ _ (hHeld.2.2.2.2.2.2.2.2.2.2.2.2.1))).trans (hHeld.2.2.2.2.2.2.2.2.2.2.2.2.1)
                  have HS13_ := (hb.cell (World.block_lt_of_cell? _ _ (hHeld.2.2.2.2.2.2.2.2.2.2.2.2.2.1))).trans (hHeld.2.2.2.2.2.2.2.2.2.2.2.2.2.1)
                  have HS14_ := (hb.cell (World.block_lt_of_cell? _ _ (hHeld.2.2.2.2.2.2.2.2.2.2.2.2.2.2.1))).trans (hHeld.2.2.2.2.2.2.2.2.2.2.2.2.2.2.1)
                  have HS15_ := (hb.cell (World.block_lt_of_cell? _ _ (hHeld.2.2.2.2.2.2.2.2.2.2.2.2.2.2.2.1))).trans (hHeld.2.2.2.2.2.2.2.2.2.2.2.2.2.2.2.1)
                  have HS16_ := (hb.cell (World.block_lt_of_cell? _ _ (hHeld.2.2.2.2.2.2.2.2.2.2.2.2.2.2.2.2.1))).trans (hHeld.2.2.2.2.2.2.2.2.2.2.2.2.2.2.2.2.1)
                  have HS17_ := (hb.cell (World.block_lt_of_cell? _ _ (hHeld.2.2.2.2.2.2.2.2.2.2.2.2.2.2.2.2.2))).trans (hHeld.2.2.2.2.2.2.2.2.2.2.2.2.2.2.2.2.2)
                  have n0_ := Aside0.mk (Kd.R_below kz13_18 hb)
                  have n1_ := Aside0.mk (blk_below (g := gb443) (o := .cells #[.int .i64 x444000_3, .int .i64 x444001_3, .int .i64 x444002_3, .string x444003_3, .int .i64 x444004_3, .bool x444005_3] 28 (0, 0)) kz13_6 hb)
                  have n2_ := Aside0.mk (below_step kz13_2 hb)
                  have n3_ := Aside0.mk (hbox)
                  have n4_ := Aside0.mk ((by rw [hg]; exact (below_size kz13_2) : w.heap.size ≤ gb462))
                  have n5_ := Aside0.mk ((by rw [hg]; exact (below_size kz13_2) : w.heap.size ≤ gb462))
                  have n6_ := Aside0.mk ((by rw [hg]; exact Nat.ne_of_lt (blk_lt (g := gb443) (o := .cells #[.int .i64 x444000_3, .int .i64 x444001_3, .int .i64 x444002_3, .string x444003_3, .int .i64 x444004_3, .bool x444005_3] 28 (0, 0)) kz13_6) : gb443 ≠ gb462))
                  have n7_ := Aside0.mk ((by rw [hg]; exact Nat.ne_of_gt (blk_lt (g := gb443) (o := .cells #[.int .i64 x444000_3, .int .i64 x444001_3, .int .i64 x444002_3, .string x444003_3, .int .i64 x444004_3, .bool x444005_3] 28 (0, 0)) kz13_6) : gb462 ≠ gb443))
                  clear HO_7
                  clear BK443
                  clear HB
                  have HO_7 := n0_
                  have BK443 := n1_
                  have HB := n2_
                  have BK462 := n3_
                  have GW462 := n4_
                  have GE462 := n5_
                  have NB443_462 := n6_
                  have NB462_443 := n7_
                  clear n0_ n1_ n2_ n3_ n4_ n5_ n6_ n7_
                  clear hb hbox hg
                  refine hK.out _ _ ⟨HS0_, HS1_, HS2_, HS3_, HS4_, HS5_, HS6_, HS7_, HS8_, HS9_, HS10_, HS11_, HS12_, HS13_, HS14_, HS15_, HS16_, HS17_⟩ (fun hHeld => ?_)
                  clear hK K
                  refine norm_ (a' := ?_) ?_ ?_
                  rotate_left
                  ·show Act.put _ (some 9) _ = _
                   simp only [Act.put, sA_, sB_, sC_, i64_w, i32_w]
                   rfl
                  refine one_ (i := 27) (N := none) #[true, true, true, true, true, true, true, true, true, true, true, true, true, true, true, true, true, true, true, true, true, true, true, true, true, true, true, true] rfl rfl (one_of HT_.out (by kernel_rfl)) (by decide) (fun K hK => ?_)
                  have hs48 : w47.cell? ⟨gb462, 0, none⟩ = some (.int .i64 0) := (blk_cell BK462.out 0).trans rfl
                  have hfs48 := blk_frozen BK462.out 0
                  have hns48_0 := NB443_462.out
                  have hms48_0 := NB462_443.out
                  have hs49 : w47.cell? ⟨gb462, 1, none⟩ = some (.int .i64 0) := (blk_cell BK462.out 1).trans rfl
                  have hfs49 := blk_frozen BK462.out 1
                  have hns49_0 := NB443_462.out
                  have hms49_0 := NB462_443.out
                  have hs50 : w47.cell? ⟨gb462, 2, none⟩ = some (.int .i64 0) := (blk_cell BK462.out 2).trans rfl
                  have hfs50 := blk_frozen BK462.out 2
                  have hns50_0 := NB443_462.out
                  have hms50_0 := NB462_443.out
                  have hs51 : w47.cell? ⟨gb462, 3, none⟩ = some (.string (⟨#[]⟩ : ByteArray)) := (blk_cell BK462.out 3).trans rfl
                  have hfs51 := blk_frozen BK462.out 3
                  have hns51_0 := NB443_462.out
                  have hms51_0 := NB462_443.out
                  have hs52 : w47.cell? ⟨gb462, 4, none⟩ = some (.int .i64 0) := (blk_cell BK462.out 4).trans rfl
                  have hfs52 := blk_frozen BK462.out 4
                  have hns52_0 := NB443_462.out
                  have hms52_0 := NB462_443.out
                  have hs53 : w47.cell? ⟨gb462, 5, none⟩ = some (.bool false) := (blk_cell BK462.out 5).trans rfl
                  have hfs53 := blk_frozen BK462.out 5
                  have hns53_0 := NB443_462.out
                  have hms53_0 := NB462_443.out
                  refine skip_ (w1 := ?_) (by rfl) rfl ?_ ?_
                  rotate_left
                  ·go_simp
                   rfl
                  have hown_ : ad456.block ≠ gb462 := kz13_15
                  refine hK.out _ _ ?hS_ (fun hHeld => ?_)
                  case hS_ => exact ⟨cell_far6 hown_ hHeld.1, cell_far6 hown_ hHeld.2.1, cell_far6 hown_ hHeld.2.2.1, cell_far6 hown_ hHeld.2.2.2.1, cell_far6 hown_ hHeld.2.2.2.2.1, cell_far6 hown_ hHeld.2.2.2.2.2.1, cell_far6 hown_ hHeld.2.2.2.2.2.2.1, cell_far6 hown_ hHeld.2.2.2.2.2.2.2.1, cell_far6 hown_ hHeld.2.2.2.2.2.2.2.2.1, cell_far6 hown_ hHeld.2.2.2.2.2.2.2.2.2.1, cell_far6 hown_ hHeld.2.2.2.2.2.2.2.2.2.2.1, cell_far6 hown_ hHeld.2.2.2.2.2.2.2.2.2.2.2.1, cell_far6 hown_ hHeld.2.2.2.2.2.2.2.2.2.2.2.2.1, cell_far6 hown_ hHeld.2.2.2.2.2.2.2.2.2.2.2.2.2.1, cell_far6 hown_ hHeld.2.2.2.2.2.2.2.2.2.2.2.2.2.2.1, cell_far6 hown_ hHeld.2.2.2.2.2.2.2.2.2.2.2.2.2.2.2.1, cell_far6 hown_ hHeld.2.2.2.2.2.2.2.2.2.2.2.2.2.2.2.2.1, cell_far6 hown_ hHeld.2.2.2.2.2.2.2.2.2.2.2.2.2.2.2.2.2⟩
                  clear hown_
                  clear hK K
                  refine done_ (done_of HT_.out (by kernel_rfl)) ?_
                  have p463 : 0 ≤ (5 : Int) := (by omega)
                  have q463 : 5 < (t449.length : Int) := of_decide_eq_true kz13_4
                  obtain ⟨ad463, e463, hx463_0, hx463_1, hx463_2⟩ := at_T117 (Kd.R_reads' HO_7.out).2.2 5 p463 q463
                  obtain rfl : ad456 = ad463 := (by injection e463)
                  (try simp only [show (5 : Int).toNat = 5 from rfl, Nat.reduceMul, Nat.reduceEqDiff, Go.Addr.add, ↓reduceIte] at hx463_0)
                  (try simp only [show (5 : Int).toNat = 5 from rfl, Nat.reduceMul, Nat.reduceEqDiff, Go.Addr.add, ↓reduceIte] at hx463_1)
                  (try simp only [show (5 : Int).toNat = 5 from rfl, Nat.reduceMul, Nat.reduceEqDiff, Go.Addr.add, ↓reduceIte] at hx463_2)
                  have qi463 : (5 < t449.length) = True := eq_true (by omega)
                  (try rw [show ((5 : Int)).toNat = 5 from rfl] at hx463_0)
                  (try rw [show 5 * 3 = 15 from rfl] at hx463_0)
                  (try rw [show ((5 : Int)).toNat = 5 from rfl] at hx463_1)
                  (try rw [show 5 * 3 = 15 from rfl] at hx463_1)
                  (try rw [show ((5 : Int)).toNat = 5 from rfl] at hx463_2)
                  (try rw [show 5 * 3 = 15 from rfl] at hx463_2)
                  have hn463_0 : ad456.block ≠ gb462 := Kd.own_blk (Kd.R_ne HO_7.out BK462.out (by decide))
                  have hn463_1 : ad456.block ≠ gb462 := Kd.own_blk (Kd.R_ne HO_7.out BK462.out (by decide))
                  have hn463_2 : ad456.block ≠ gb462 := Kd.own_blk (Kd.R_ne HO_7.out BK462.out (by decide))
                  have hn463_3 : ad456.block ≠ gb462 := Kd.own_blk (Kd.R_ne HO_7.out BK462.out (by decide))
                  have hn463_4 : ad456.block ≠ gb462 := Kd.own_blk (Kd.R_ne HO_7.out BK462.out (by decide))
                  have hn463_5 : ad456.block ≠ gb462 := Kd.own_blk (Kd.R_ne HO_7.out BK462.out (by decide))
                  replace hx463_0 := (cell_far (p := ⟨gb462, 0, none⟩) kz13_12 (.int .i64 ((rd_T117 t449 0).f1))).trans hx463_0
                  replace hx463_1 := (cell_far (p := ⟨gb462, 0, none⟩) kz13_12 (.int .i64 ((rd_T117 t449 0).f1))).trans hx463_1
                  replace hx463_2 := (cell_far (p := ⟨gb462, 0, none⟩) kz13_12 (.int .i64 ((rd_T117 t449 0).f1))).trans hx463_2
                  replace hx463_0 := (cell_far (p := ⟨gb462, 1, none⟩) kz13_11 (.int .i64 ((rd_T117 t449 1).f1))).trans hx463_0
                  replace hx463_1 := (cell_far (p := ⟨gb462, 1, none⟩) kz13_11 (.int .i64 ((rd_T117 t449 1).f1))).trans hx463_1
                  replace hx463_2 := (cell_far (p := ⟨gb462, 1, none⟩) kz13_11 (.int .i64 ((rd_T117 t449 1).f1))).trans hx463_2
                  replace hx463_0 := (cell_far (p := ⟨gb462, 2, none⟩) kz13_10 (.int .i64 ((rd_T117 t449 2).f1))).trans hx463_0
                  replace hx463_1 := (cell_far (p := ⟨gb462, 2, none⟩) kz13_10 (.int .i64 ((rd_T117 t449 2).f1))).trans hx463_1
                  replace hx463_2 := (cell_far (p := ⟨gb462, 2, none⟩) kz13_10 (.int .i64 ((rd_T117 t449 2).f1))).trans hx463_2
                  replace hx463_0 := (cell_far (p := ⟨gb462, 3, none⟩) kz13_9 (.string ((rd_T117 t449 3).f2))).trans hx463_0
                  replace hx463_1 := (cell_far (p := ⟨gb462, 3, none⟩) kz13_9 (.string ((rd_T117 t449 3).f2))).trans hx463_1
                  replace hx463_2 := (cell_far (p := ⟨gb462, 3, none⟩) kz13_9 (.string ((rd_T117 t449 3).f2))).trans hx463_2
                  replace hx463_0 := (cell_far (p := ⟨gb462, 4, none⟩) kz13_8 (.int .i64 ((rd_T117 t449 4).f1))).trans hx463_0
                  replace hx463_1 := (cell_far (p := ⟨gb462, 4, none⟩) kz13_8 (.int .i64 ((rd_T117 t449 4).f1))).trans hx463_1
                  replace hx463_2 := (cell_far (p := ⟨gb462, 4, none⟩) kz13_8 (.int .i64 ((rd_T117 t449 4).f1))).trans hx463_2
                  replace hx463_0 := (cell_far (p := ⟨gb462, 5, none⟩) kz13_7 (.bool (((rd_T117 t449 5).f1) == 1))).trans hx463_0
                  replace hx463_1 := (cell_far (p := ⟨gb462, 5, none⟩) kz13_7 (.bool (((rd_T117 t449 5).f1) == 1))).trans hx463_1
                  replace hx463_2 := (cell_far (p := ⟨gb462, 5, none⟩) kz13_7 (.bool (((rd_T117 t449 5).f1) == 1))).trans hx463_2
                  clear hn463_0
                  clear hn463_1
                  clear hn463_2
                  clear hn463_3
                  clear hn463_4
                  clear hn463_5
                  replace p463 := eq_true p463
                  replace q463 := eq_true q463
                  have hnb54 := NB462_443.out
                  have hnc54 := NB443_462.out
                  have hcz55_0 : w47.cell? ⟨gb462, 0, none⟩ = some (.int .i64 0) := (blk_cell BK462.out 0).trans rfl
                  have hcz55_1 : w47.cell? ⟨gb462, 1, none⟩ = some (.int .i64 0) := (blk_cell BK462.out 1).trans rfl
                  have hcz55_2 : w47.cell? ⟨gb462, 2, none⟩ = some (.int .i64 0) := (blk_cell BK462.out 2).trans rfl
                  have hcz55_3 : w47.cell? ⟨gb462, 3, none⟩ = some (.string (⟨#[]⟩ : ByteArray)) := (blk_cell BK462.out 3).trans rfl
                  have hcz55_4 : w47.cell? ⟨gb462, 4, none⟩ = some (.int .i64 0) := (blk_cell BK462.out 4).trans rfl
                  have hcz55_5 : w47.cell? ⟨gb462, 5, none⟩ = some (.bool false) := (blk_cell BK462.out 5).trans rfl
                  have hfz55_0 := blk_frozen BK462.out 0
                  have hfz55_1 := blk_frozen BK462.out 1
                  have hfz55_2 := blk_frozen BK462.out 2
                  have hfz55_3 := blk_frozen BK462.out 3
                  have hfz55_4 := blk_frozen BK462.out 4
                  have hfz55_5 := blk_frozen BK462.out 5
                  try go_wp2_with (first | (go_at_call 37; (with_reducible refine (tumbrelref18_Formed.calls ((rd_T117 t449 0).f1) ((rd_T117 t449 1).f1) ((rd_T117 t449 2).f1) ((rd_T117 t449 3).f2) ((rd_T117 t449 4).f1) (((rd_T117 t449 5).f1) == 1) true _ A44.out).mono ?_); rintro e w56 ⟨rfl, hb⟩; have n0_ := Aside0.mk (Kd.R_below kz13_14 hb); have n1_ := Aside0.mk (blk_below (g := gb443) (o := .cells #[.int .i64 x444000_3, .int .i64 x444001_3, .int .i64 x444002_3, .string x444003_3, .int .i64 x444004_3, .bool x444005_3] 28 (0, 0)) kz13_13 hb); have n2_ := Aside0.mk (blk_below (g := gb462) (o := .cells #[.int .i64 ((rd_T117 t449 0).f1), .int .i64 ((rd_T117 t449 1).f1), .int .i64 ((rd_T117 t449 2).f1), .string ((rd_T117 t449 3).f2), .int .i64 ((rd_T117 t449 4).f1), .bool (((rd_T117 t449 5).f1) == 1)] 28 (0, 0)) kz13_3 hb); have n3_ := Aside0.mk (below_step (by repeat (first | (with_reducible first | exact HB.out | apply below_alloc | apply pw_below_drewN | apply below_drew1 | refine below_set ?_ GE443.out | refine below_set ?_ GE462.out) | exact HB.out)) hb); clear HO_7; clear BK443; clear BK462; clear HB; have HO_7 := n0_; have BK443 := n1_; have BK462 := n2_; have HB := n3_; clear n0_ n1_ n2_ n3_; (try clear hb); (try clear hb2); (try clear hk); (try clear hi); have hcz57_0 : w56.cell? ⟨gb462, 0, none⟩ = some (.int .i64 ((rd_T117 t449 0).f1)) := (blk_cell BK462.out 0).trans rfl; have hcz57_1 : w56.cell? ⟨gb462, 1, none⟩ = some (.int .i64 ((rd_T117 t449 1).f1)) := (blk_cell BK462.out 1).trans rfl; have hcz57_2 : w56.cell? ⟨gb462, 2, none⟩ = some (.int .i64 ((rd_T117 t449 2).f1)) := (blk_cell BK462.out 2).trans rfl; have hcz57_3 : w56.cell? ⟨gb462, 3, none⟩ = some (.string ((rd_T117 t449 3).f2)) := (blk_cell BK462.out 3).trans rfl; have hcz57_4 : w56.cell? ⟨gb462, 4, none⟩ = some (.int .i64 ((rd_T117 t449 4).f1)) := (blk_cell BK462.out 4).trans rfl; have hcz57_5 : w56.cell? ⟨gb462, 5, none⟩ = some (.bool (((rd_T117 t449 5).f1) == 1)) := (blk_cell BK462.out 5).trans rfl; have hfz57_0 := blk_frozen BK462.out 0; have hfz57_1 := blk_frozen BK462.out 1; have hfz57_2 := blk_frozen BK462.out 2; have hfz57_3 := blk_frozen BK462.out 3; have hfz57_4 := blk_frozen BK462.out 4; have hfz57_5 := blk_frozen BK462.out 5; have hcz58_0 : w56.cell? ⟨gb443, 0, none⟩ = some (.int .i64 x444000_3) := (blk_cell BK443.out 0).trans rfl; have hcz58_1 : w56.cell? ⟨gb443, 1, none⟩ = some (.int .i64 x444001_3) := (blk_cell BK443.out 1).trans rfl; have hcz58_2 : w56.cell? ⟨gb443, 2, none⟩ = some (.int .i64 x444002_3) := (blk_cell BK443.out 2).trans rfl; have hcz58_3 : w56.cell? ⟨gb443, 3, none⟩ = some (.string x444003_3) := (blk_cell BK443.out 3).trans rfl; have hcz58_4 : w56.cell? ⟨gb443, 4, none⟩ = some (.int .i64 x444004_3) := (blk_cell BK443.out 4).trans rfl; have hcz58_5 : w56.cell? ⟨gb443, 5, none⟩ = some (.bool x444005_3) := (blk_cell BK443.out 5).trans rfl; have hfz58_0 := blk_frozen BK443.out 0; have hfz58_1 := blk_frozen BK443.out 1; have hfz58_2 := blk_frozen BK443.out 2; have hfz58_3 := blk_frozen BK443.out 3; have hfz58_4 := blk_frozen BK443.out 4; have hfz58_5 := blk_frozen BK443.out 5))
                  refine bodyPost_ret (results_ct rfl _ _ gb443 28 #[.int .i64 ((rd_T117 t449 0).f1), .int .i64 ((rd_T117 t449 1).f1), .int .i64 ((rd_T117 t449 2).f1), .string ((rd_T117 t449 3).f2), .int .i64 ((rd_T117 t449 4).f1), .bool (((rd_T117 t449 5).f1) == 1)] (0, 0) _ rfl (by (with_reducible repeat (first | refine blk_drewN ?_ _ | refine blk_drew ?_ | refine blk_alloc ?_ _)); refine blk_put (cs := #[.int .i64 ((rd_T117 t449 0).f1), .int .i64 ((rd_T117 t449 1).f1), .int .i64 ((rd_T117 t449 2).f1), .string ((rd_T117 t449 3).f2), .int .i64 ((rd_T117 t449 4).f1), .bool x444005_3]) ?_ 5 _ rfl; (with_reducible repeat (first | refine blk_drewN ?_ _ | refine blk_drew ?_ | refine blk_alloc ?_ _)); refine blk_put (cs := #[.int .i64 ((rd_T117 t449 0).f1), .int .i64 ((rd_T117 t449 1).f1), .int .i64 ((rd_T117 t449 2).f1), .string ((rd_T117 t449 3).f2), .int .i64 x444004_3, .bool x444005_3]) ?_ 4 _ rfl; (with_reducible repeat (first | refine blk_drewN ?_ _ | refine blk_drew ?_ | refine blk_alloc ?_ _)); refine blk_put (cs := #[.int .i64 ((rd_T117 t449 0).f1), .int .i64 ((rd_T117 t449 1).f1), .int .i64 ((rd_T117 t449 2).f1), .string x444003_3, .int .i64 x444004_3, .bool x444005_3]) ?_ 3 _ rfl; (with_reducible repeat (first | refine blk_drewN ?_ _ | refine blk_drew ?_ | refine blk_alloc ?_ _)); refine blk_put (cs := #[.int .i64 ((rd_T117 t449 0).f1), .int .i64 ((rd_T117 t449 1).f1), .int .i64 x444002_3, .string x444003_3, .int .i64 x444004_3, .bool x444005_3]) ?_ 2 _ rfl; (with_reducible repeat (first | refine blk_drewN ?_ _ | refine blk_drew ?_ | refine blk_alloc ?_ _)); refine blk_put (cs := #[.int .i64 ((rd_T117 t449 0).f1), .int .i64 x444001_3, .int .i64 x444002_3, .string x444003_3, .int .i64 x444004_3, .bool x444005_3]) ?_ 1 _ rfl; (with_reducible repeat (first | refine blk_drewN ?_ _ | refine blk_drew ?_ | refine blk_alloc ?_ _)); refine blk_put (cs := #[.int .i64 x444000_3, .int .i64 x444001_3, .int .i64 x444002_3, .string x444003_3, .int .i64 x444004_3, .bool x444005_3]) ?_ 0 _ rfl; (with_reducible repeat (first | refine blk_drewN ?_ _ | refine blk_drew ?_ | refine blk_alloc ?_ _)); exact BK443.out) Try.underlying28 rfl (by kernel_rfl)) rfl ?_
                  exact ⟨by first | rfl | (simp [errW_none, errW_some] <;> rfl) | (simp [*, errW_none, errW_some] <;> rfl), by repeat (first | (with_reducible first | exact HB.out | apply below_alloc | apply pw_below_drewN | apply below_drew1 | refine below_set ?_ GE443.out | refine below_set ?_ GE462.out) | exact HB.out)⟩
                 ·replace c45 := Bool.eq_false_iff.mpr c45
                  subst c45
                  have H1 : (some (0, 0, 0, (⟨#[]⟩ : ByteArray), 0, false, 2)) = some (r1, r2, r3, r4, r5, r6, r7) := by rw [if_neg (show ¬ (false = true) by decide)] at H; exact H
                  clear H
                  have H := H1
                  clear H1
                  simp only [Option.some.injEq, Prod.mk.injEq] at H
                  obtain ⟨rfl, rfl, rfl, rfl, rfl, rfl, rfl⟩ := H
                  try go_wp2
                  have n0_ := Aside0.mk (Kd.R_drew HO_7.out)
                  have n1_ := Aside0.mk (blk_drew BK443.out)
                  have n2_ := Aside0.mk (below_drew1 HB.out)
                  clear HO_7
                  clear BK443
                  clear HB
                  have HO_7 := n0_
                  have BK443 := n1_
                  have HB := n2_
                  clear n0_ n1_ n2_
                  have p456 : 0 ≤ (0 : Int) := (by omega)
                  have q456 : 0 < (t449.length : Int) := of_decide_eq_true kz13_4
                  obtain ⟨ad456, e456, hx456_0, hx456_1, hx456_2⟩ := at_T117 (Kd.R_reads' HO_7.out).2.2 0 p456 q456
                  cases e456
                  have qi456 : (0 < t449.length) = True := eq_true (by omega)
                  (try rw [show ((0 : Int)).toNat = 0 from rfl] at hx456_0)
                  (try rw [show 0 * 3 = 0 from rfl] at hx456_0)
                  (try rw [Addr.add_zero'] at hx456_0)
                  (try rw [show ((0 : Int)).toNat = 0 from rfl] at hx456_1)
                  (try rw [show 0 * 3 = 0 from rfl] at hx456_1)
                  (try rw [Addr.add_zero'] at hx456_1)
                  (try rw [show ((0 : Int)).toNat = 0 from rfl] at hx456_2)
                  (try rw [show 0 * 3 = 0 from rfl] at hx456_2)
                  (try rw [Addr.add_zero'] at hx456_2)
                  replace p456 := eq_true p456
                  replace q456 := eq_true q456
                  have p457 : 0 ≤ (1 : Int) := (by omega)
                  have q457 : 1 < (t449.length : Int) := of_decide_eq_true kz13_4
                  obtain ⟨ad457, e457, hx457_0, hx457_1, hx457_2⟩ := at_T117 (Kd.R_reads' HO_7.out).2.2 1 p457 q457
                  obtain rfl : ad456 = ad457 := (by injection e457)
                  (try simp only [show (1 : Int).toNat = 1 from rfl, Nat.reduceMul, Nat.reduceEqDiff, Go.Addr.add, ↓reduceIte] at hx457_0)
                  (try simp only [show (1 : Int).toNat = 1 from rfl, Nat.reduceMul, Nat.reduceEqDiff, Go.Addr.add, ↓reduceIte] at hx457_1)
                  (try simp only [show (1 : Int).toNat = 1 from rfl, Nat.reduceMul, Nat.reduceEqDiff, Go.Addr.add, ↓reduceIte] at hx457_2)
                  have qi457 : (1 < t449.length) = True := eq_true (by omega)
                  (try rw [show ((1 : Int)).toNat = 1 from rfl] at hx457_0)
                  (try rw [show 1 * 3 = 3 from rfl] at hx457_0)
                  (try rw [show ((1 : Int)).toNat = 1 from rfl] at hx457_1)
                  (try rw [show 1 * 3 = 3 from rfl] at hx457_1)
                  (try rw [show ((1 : Int)).toNat = 1 from rfl] at hx457_2)
                  (try rw [show 1 * 3 = 3 from rfl] at hx457_2)
                  replace p457 := eq_true p457
                  replace q457 := eq_true q457
                  have p458 : 0 ≤ (2 : Int) := (by omega)
                  have q458 : 2 < (t449.length : Int) := of_decide_eq_true kz13_4
                  obtain ⟨ad458, e458, hx458_0, hx458_1, hx458_2⟩ := at_T117 (Kd.R_reads' HO_7.out).2.2 2 p458 q458
                  obtain rfl : ad456 = ad458 := (by injection e458)
                  (try simp only [show (2 : Int).toNat = 2 from rfl, Nat.reduceMul, Nat.reduceEqDiff, Go.Addr.add, ↓reduceIte] at hx458_0)
                  (try simp only [show (2 : Int).toNat = 2 from rfl, Nat.reduceMul, Nat.reduceEqDiff, Go.Addr.add, ↓reduceIte] at hx458_1)
                  (try simp only [show (2 : Int).toNat = 2 from rfl, Nat.reduceMul, Nat.reduceEqDiff, Go.Addr.add, ↓reduceIte] at hx458_2)
                  have qi458 : (2 < t449.length) = True := eq_true (by omega)
                  (try rw [show ((2 : Int)).toNat = 2 from rfl] at hx458_0)
                  (try rw [show 2 * 3 = 6 from rfl] at hx458_0)
                  (try rw [show ((2 : Int)).toNat = 2 from rfl] at hx458_1)
                  (try rw [show 2 * 3 = 6 from rfl] at hx458_1)
                  (try rw [show ((2 : Int)).toNat = 2 from rfl] at hx458_2)
                  (try rw [show 2 * 3 = 6 from rfl] at hx458_2)
                  replace p458 := eq_true p458
                  replace q458 := eq_true q458
                  have p459 : 0 ≤ (3 : Int) := (by omega)
                  have q459 : 3 < (t449.length : Int) := of_decide_eq_true kz13_4
                  obtain ⟨ad459, e459, hx459_0, hx459_1, hx459_2⟩ := at_T117 (Kd.R_reads' HO_7.out).2.2 3 p459 q459
                  obtain rfl : ad456 = ad459 := (by injection e459)
                  (try simp only [show (3 : Int).toNat = 3 from rfl, Nat.reduceMul, Nat.reduceEqDiff, Go.Addr.add, ↓reduceIte] at hx459_0)
                  (try simp only [show (3 : Int).toNat = 3 from rfl, Nat.reduceMul, Nat.reduceEqDiff, Go.Addr.add, ↓reduceIte] at hx459_1)
                  (try simp only [show (3 : Int).toNat = 3 from rfl, Nat.reduceMul, Nat.reduceEqDiff, Go.Addr.add, ↓reduceIte] at hx459_2)
                  have qi459 : (3 < t449.length) = True := eq_true (by omega)
                  (try rw [show ((3 : Int)).toNat = 3 from rfl] at hx459_0)
                  (try rw [show 3 * 3 = 9 from rfl] at hx459_0)
                  (try rw [show ((3 : Int)).toNat = 3 from rfl] at hx459_1)
                  (try rw [show 3 * 3 = 9 from rfl] at hx459_1)
                  (try rw [show ((3 : Int)).toNat = 3 from rfl] at hx459_2)
                  (try rw [show 3 * 3 = 9 from rfl] at hx459_2)
                  replace p459 := eq_true p459
                  replace q459 := eq_true q459
                  have p460 : 0 ≤ (4 : Int) := (by omega)
                  have q460 : 4 < (t449.length : Int) := of_decide_eq_true kz13_4
                  obtain ⟨ad460, e460, hx460_0, hx460_1, hx460_2⟩ := at_T117 (Kd.R_reads' HO_7.out).2.2 4 p460 q460
                  obtain rfl : ad456 = ad460 := (by injection e460)
                  (try simp only [show (4 : Int).toNat = 4 from rfl, Nat.reduceMul, Nat.reduceEqDiff, Go.Addr.add, ↓reduceIte] at hx460_0)
                  (try simp only [show (4 : Int).toNat = 4 from rfl, Nat.reduceMul, Nat.reduceEqDiff, Go.Addr.add, ↓reduceIte] at hx460_1)
                  (try simp only [show (4 : Int).toNat = 4 from rfl, Nat.reduceMul, Nat.reduceEqDiff, Go.Addr.add, ↓reduceIte] at hx460_2)
                  have qi460 : (4 < t449.length) = True := eq_true (by omega)
                  (try rw [show ((4 : Int)).toNat = 4 from rfl] at hx460_0)
                  (try rw [show 4 * 3 = 12 from rfl] at hx460_0)
                  (try rw [show ((4 : Int)).toNat = 4 from rfl] at hx460_1)
                  (try rw [show 4 * 3 = 12 from rfl] at hx460_1)
                  (try rw [show ((4 : Int)).toNat = 4 from rfl] at hx460_2)
                  (try rw [show 4 * 3 = 12 from rfl] at hx460_2)
                  replace p460 := eq_true p460
                  replace q460 := eq_true q460
                  have p461 : 0 ≤ (5 : Int) := (by omega)
                  have q461 : 5 < (t449.length : Int) := of_decide_eq_true kz13_4
                  obtain ⟨ad461, e461, hx461_0, hx461_1, hx461_2⟩ := at_T117 (Kd.R_reads' HO_7.out).2.2 5 p461 q461
                  obtain rfl : ad456 = ad461 := (by injection e461)
                  (try simp only [show (5 : Int).toNat = 5 from rfl, Nat.reduceMul, Nat.reduceEqDiff, Go.Addr.add, ↓reduceIte] at hx461_0)
                  (try simp only [show (5 : Int).toNat = 5 from rfl, Nat.reduceMul, Nat.reduceEqDiff, Go.Addr.add, ↓reduceIte] at hx461_1)
                  (try simp only [show (5 : Int).toNat = 5 from rfl, Nat.reduceMul, Nat.reduceEqDiff, Go.Addr.add, ↓reduceIte] at hx461_2)
                  have qi461 : (5 < t449.length) = True := eq_true (by omega)
                  (try rw [show ((5 : Int)).toNat = 5 from rfl] at hx461_0)
                  (try rw [show 5 * 3 = 15 from rfl] at hx461_0)
                  (try rw [show ((5 : Int)).toNat = 5 from rfl] at hx461_1)
                  (try rw [show 5 * 3 = 15 from rfl] at hx461_1)
                  (try rw [show ((5 : Int)).toNat = 5 from rfl] at hx461_2)
                  (try rw [show 5 * 3 = 15 from rfl] at hx461_2)
                  replace p461 := eq_true p461
                  replace q461 := eq_true q461
                  refine start_ (n := 28) (S := fun w' => w'.cell? ad456 = some (.bool ((rd_T117 t449 0).f0)) ∧ w'.cell? ⟨ad456.block, ad456.off + 1, none⟩ = some (.int .i64 ((rd_T117 t449 0).f1)) ∧ w'.cell? ⟨ad456.block, ad456.off + 2, none⟩ = some (.string ((rd_T117 t449 0).f2)) ∧ w'.cell? ⟨ad456.block, ad456.off + 3, none⟩ = some (.bool ((rd_T117 t449 1).f0)) ∧ w'.cell? ⟨ad456.block, ad456.off + 3 + 1, none⟩ = some (.int .i64 ((rd_T117 t449 1).f1)) ∧ w'.cell? ⟨ad456.block, ad456.off + 3 + 2, none⟩ = some (.string ((rd_T117 t449 1).f2)) ∧ w'.cell? ⟨ad456.block, ad456.off + 6, none⟩ = some (.bool ((rd_T117 t449 2).f0)) ∧ w'.cell? ⟨ad456.block, ad456.off + 6 + 1, none⟩ = some (.int .i64 ((rd_T117 t449 2).f1)) ∧ w'.cell? ⟨ad456.block, ad456.off + 6 + 2, none⟩ = some (.string ((rd_T117 t449 2).f2)) ∧ w'.cell? ⟨ad456.block, ad456.off + 9, none⟩ = some (.bool ((rd_T117 t449 3).f0)) ∧ w'.cell? ⟨ad456.block, ad456.off + 9 + 1, none⟩ = some (.int .i64 ((rd_T117 t449 3).f1)) ∧ w'.cell? ⟨ad456.block, ad456.off + 9 + 2, none⟩ = some (.string ((rd_T117 t449 3).f2)) ∧ w'.cell? ⟨ad456.block, ad456.off + 12, none⟩ = some (.bool ((rd_T117 t449 4).f0)) ∧ w'.cell? ⟨ad456.block, ad456.off + 12 + 1, none⟩ = some (.int .i64 ((rd_T117 t449 4).f1)) ∧ w'.cell? ⟨ad456.block, ad456.off + 12 + 2, none⟩ = some (.string ((rd_T117 t449 4).f2)) ∧ w'.cell? ⟨ad456.block, ad456.off + 15, none⟩ = some (.bool ((rd_T117 t449 5).f0)) ∧ w'.cell? ⟨ad456.block, ad456.off + 15 + 1, none⟩ = some (.int .i64 ((rd_T117 t449 5).f1)) ∧ w'.cell? ⟨ad456.block, ad456.off + 15 + 2, none⟩ = some (.string ((rd_T117 t449 5).f2))) (ds := []) #[false, false, false, false, false, false, false, false, false, false, false, false, false, false, false, false, false, false, false, false, false, false, false, false, false, false, false, false] (by kernel_rfl) rfl rfl ⟨hx456_0, hx456_1, hx456_2, hx457_0, hx457_1, hx457_2, hx458_0, hx458_1, hx458_2, hx459_0, hx459_1, hx459_2, hx460_0, hx460_1, hx460_2, hx461_0, hx461_1, hx461_2⟩ (fun hHeld => ?_); refine with_tabW tumbrelref18_Decode.tab13 tumbrelref18_Decode.bits13 (fun HT_ HW_ => ?_)
                  generalize wr.drew = w59 at HO_7 BK443 HB hx456_0 hx456_1 hx456_2 hx457_0 hx457_1 hx457_2 hx458_0 hx458_1 hx458_2 hx459_0 hx459_1 hx459_2 hx460_0 hx460_1 hx460_2 hx461_0 hx461_1 hx461_2 hHeld ⊢
                  refine pure_ (i := 0) (N := some 69) (v := ?_) (a' := ?_) #[true, false, false, false, false, false, false, false, false, false, false, false, false, false, false, false, false, false, false, false, false, false, false, false, false, false, false, false] rfl rfl (any_of HT_.out (by kernel_rfl)) (fun _ _ _ h => h) (Or.inl ⟨by rfl, ?_⟩) ?_ ?_
                  rotate_left
                  ·intro w'
                   go_simp
                   with_reducible rfl
                  rotate_left
                  ·simp only [Act.put, sA_, sB_, sC_, i64_w, i32_w]
                   rfl
                  refine pure_ (i := 1) (N := some 70) (v := ?_) (a' := ?_) #[true, true, false, false, false, false, false, false, false, false, false, false, false, false, false, false, false, false, false, false, false, false, false, false, false, false, false, false] rfl rfl (any_of HT_.out (by kernel_rfl)) (fun _ _ _ h => h) (Or.inl ⟨by rfl, ?_⟩) ?_ ?_
                  rotate_left
                  ·intro w'
                   go_simp
                   with_reducible rfl
                  rotate_left
                  ·simp only [Act.put, sA_, sB_, sC_, i64_w, i32_w]
                   rfl
                  refine pure_ (i := 2) (N := some 71) (v := ?_) (a' := ?_) #[true, true, true, false, false, false, false, false, false, false, false, false, false, false, false, false, false, false, false, false, false, false, false, false, false, false, false, false] rfl rfl (any_of HT_.out (by kernel_rfl)) (fun _ _ _ h => h) (Or.inl ⟨by rfl, ?_⟩) ?_ ?_
                  rotate_left
                  ·intro w'
                   go_simp
                   with_reducible rfl
                  rotate_left
                  ·simp only [Act.put, sA_, sB_, sC_, i64_w, i32_w]
                   rfl
                  refine pure_ (i := 4) (N := some 73) (v := ?_) (a' := ?_) #[true, true, true, false, true, false, false, false, false, false, false, false, false, false, false, false, false, false, false, false, false, false, false, false, false, false, false, false] rfl rfl (any_of HT_.out (by kernel_rfl)) (fun _ _ _ h => h) (Or.inl ⟨by rfl, ?_⟩) ?_ ?_
                  rotate_left
                  ·intro w'
                   go_simp
                   with_reducible rfl
                  rotate_left
                  ·simp only [Act.put, sA_, sB_, sC_, i64_w, i32_w]
                   rfl
                  refine pure_ (i := 5) (N := some 74) (v := ?_) (a' := ?_) #[true, true, true, false, true, true, false, false, false, false, false, false, false, false, false, false, false, false, false, false, false, false, false, false, false, false, false, false] rfl rfl (any_of HT_.out (by kernel_rfl)) (fun _ _ _ h => h) (Or.inl ⟨by rfl, ?_⟩) ?_ ?_
                  rotate_left
                  ·intro w'
                   go_simp
                   with_reducible rfl
                  rotate_left
                  ·simp only [Act.put, sA_, sB_, sC_, i64_w, i32_w]
                   rfl
                  refine pure_ (i := 6) (N := some 75) (v := ?_) (a' := ?_) #[true, true, true, false, true, true, true, false, false, false, false, false, false, false, false, false, false, false, false, false, false, false, false, false, false, false, false, false] rfl rfl (any_of HT_.out (by kernel_rfl)) (fun _ _ _ h => h) (Or.inl ⟨by rfl, ?_⟩) ?_ ?_
                  rotate_left
                  ·intro w'
                   go_simp
                   with_reducible rfl
                  rotate_left
                  ·simp only [Act.put, sA_, sB_, sC_, i64_w, i32_w]
                   rfl
                  refine pure_ (i := 8) (N := some 77) (v := ?_) (a' := ?_) #[true, true, true, false, true, true, true, false, true, false, false, false, false, false, false, false, false, false, false, false, false, false, false, false, false, false, false, false] rfl rfl (any_of HT_.out (by kernel_rfl)) (fun _ _ _ h => h) (Or.inl ⟨by rfl, ?_⟩) ?_ ?_
                  rotate_left
                  ·intro w'
                   go_simp
                   with_reducible rfl
                  rotate_left
                  ·simp only [Act.put, sA_, sB_, sC_, i64_w, i32_w]
                   rfl
                  refine pure_ (i := 9) (N := some 78) (v := ?_) (a' := ?_) #[true, true, true, false, true, true, true, false, true, true, false, false, false, false, false, false, false, false, false, false, false, false, false, false, false, false, false, false] rfl rfl (any_of HT_.out (by kernel_rfl)) (fun _ _ _ h => h) (Or.inl ⟨by rfl, ?_⟩) ?_ ?_
                  rotate_left
                  ·intro w'
                   go_simp
                   with_reducible rfl
                  rotate_left
                  ·simp only [Act.put, sA_, sB_, sC_, i64_w, i32_w]
                   rfl
                  refine pure_ (i := 10) (N := some 79) (v := ?_) (a' := ?_) #[true, true, true, false, true, true, true, false, true, true, true, false, false, false, false, false, false, false, false, false, false, false, false, false, false, false, false, false] rfl rfl (any_of HT_.out (by kernel_rfl)) (fun _ _ _ h => h) (Or.inl ⟨by rfl, ?_⟩) ?_ ?_
                  rotate_left
                  ·intro w'
                   go_simp
                   with_reducible rfl
                  rotate_left
                  ·simp only [Act.put, sA_, sB_, sC_, i64_w, i32_w]
                   rfl
                  refine pure_ (i := 12) (N := some 81) (v := ?_) (a' := ?_) #[true, true, true, false, true, true, true, false, true, true, true, false, true, false, false, false, false, false, false, false, false, false, false, false, false, false, false, false] rfl rfl (any_of HT_.out (by kernel_rfl)) (fun _ _ _ h => h) (Or.inl ⟨by rfl, ?_⟩) ?_ ?_
                  rotate_left
                  ·intro w'
                   go_simp
                   with_reducible rfl
                  rotate_left
                  ·simp only [Act.put, sA_, sB_, sC_, i64_w, i32_w]
                   rfl
                  refine pure_ (i := 13) (N := some 82) (v := ?_) (a' := ?_) #[true, true, true, false, true, true, true, false, true, true, true, false, true, true, false, false, false, false, false, false, false, false, false, false, false, false, false, false] rfl rfl (any_of HT_.out (by kernel_rfl)) (fun _ _ _ h => h) (Or.inl ⟨by rfl, ?_⟩) ?_ ?_
                  rotate_left
                  ·intro w'
                   go_simp
                   with_reducible rfl
                  rotate_left
                  ·simp only [Act.put, sA_, sB_, sC_, i64_w, i32_w]
                   rfl
                  refine pure_ (i := 14) (N := some 83) (v := ?_) (a' := ?_) #[true, true, true, false, true, true, true, false, true, true, true, false, true, true, true, false, false, false, false, false, false, false, false, false, false, false, false, false] rfl rfl (any_of HT_.out (by kernel_rfl)) (fun _ _ _ h => h) (Or.inl ⟨by rfl, ?_⟩) ?_ ?_
                  rotate_left
                  ·intro w'
                   go_simp
                   with_reducible rfl
                  rotate_left
                  ·simp only [Act.put, sA_, sB_, sC_, i64_w, i32_w]
                   rfl
                  refine pure_ (i := 16) (N := some 85) (v := ?_) (a' := ?_) #[true, true, true, false, true, true, true, false, true, true, true, false, true, true, true, false, true, false, false, false, false, false, false, false, false, false, false, false] rfl rfl (any_of HT_.out (by kernel_rfl)) (fun _ _ _ h => h) (Or.inl ⟨by rfl, ?_⟩) ?_ ?_
                  rotate_left
                  ·intro w'
                   go_simp
                   with_reducible rfl
                  rotate_left
                  ·simp only [Act.put, sA_, sB_, sC_, i64_w, i32_w]
                   rfl
                  refine pure_ (i := 17) (N := some 86) (v := ?_) (a' := ?_) #[true, true, true, false, true, true, true, false, true, true, true, false, true, true, true, false, true, true, false, false, false, false, false, false, false, false, false, false] rfl rfl (any_of HT_.out (by kernel_rfl)) (fun _ _ _ h => h) (Or.inl ⟨by rfl, ?_⟩) ?_ ?_
                  rotate_left
                  ·intro w'
                   go_simp
                   with_reducible rfl
                  rotate_left
                  ·simp only [Act.put, sA_, sB_, sC_, i64_w, i32_w]
                   rfl
                  refine pure_ (i := 18) (N := some 87) (v := ?_) (a' := ?_) #[true, true, true, false, true, true, true, false, true, true, true, false, true, true, true, false, true, true, true, false, false, false, false, false, false, false, false, false] rfl rfl (any_of HT_.out (by kernel_rfl)) (fun _ _ _ h => h) (Or.inl ⟨by rfl, ?_⟩) ?_ ?_
                  rotate_left
                  ·intro w'
                   go_simp
                   with_reducible rfl
                  rotate_left
                  ·simp only [Act.put, sA_, sB_, sC_, i64_w, i32_w]
                   rfl
                  refine pure_ (i := 20) (N := some 89) (v := ?_) (a' := ?_) #[true, true, true, false, true, true, true, false, true, true, true, false, true, true, true, false, true, true, true, false, true, false, false, false, false, false, false, false] rfl rfl (any_of HT_.out (by kernel_rfl)) (fun _ _ _ h => h) (Or.inl ⟨by rfl, ?_⟩) ?_ ?_
                  rotate_left
                  ·intro w'
                   go_simp
                   with_reducible rfl
                  rotate_left
                  ·simp only [Act.put, sA_, sB_, sC_, i64_w, i32_w]
                   rfl
                  refine pure_ (i := 21) (N := some 90) (v := ?_) (a' := ?_) #[true, true, true, false, true, true, true, false, true, true, true, false, true, true, true, false, true, true, true, false, true, true, false, false, false, false, false, false] rfl rfl (any_of HT_.out (by kernel_rfl)) (fun _ _ _ h => h) (Or.inl ⟨by rfl, ?_⟩) ?_ ?_
                  rotate_left
                  ·intro w'
                   go_simp
                   with_reducible rfl
                  rotate_left
                  ·simp only [Act.put, sA_, sB_, sC_, i64_w, i32_w]
                   rfl
                  refine pure_ (i := 22) (N := some 91) (v := ?_) (a' := ?_) #[true, true, true, false, true, true, true, false, true, true, true, false, true, true, true, false, true, true, true, false, true, true, true, false, false, false, false, false] rfl rfl (any_of HT_.out (by kernel_rfl)) (fun _ _ _ h => h) (Or.inl ⟨by rfl, ?_⟩) ?_ ?_
                  rotate_left
                  ·intro w'
                   go_simp
                   with_reducible rfl
                  rotate_left
                  ·simp only [Act.put, sA_, sB_, sC_, i64_w, i32_w]
                   rfl
                  refine take_ (i := 3) (N := some 72) (v := ?_) (a' := ?_) #[true, true, true, true, true, true, true, false, true, true, true, false, true, true, true, false, true, true, true, false, true, true, true, false, false, false, false, false] rfl rfl (take_ofW HT_.out HW_.out (by kernel_rfl)) (fun _ _ _ h => h) (Or.inl ⟨by rfl, ?_⟩) hHeld ?_ ?_
                  rotate_left
                  ·rintro w' ⟨s0, s1, s2, s3, s4, s5, s6, s7, s8, s9, s10, s11, s12, s13, s14, s15, s16, s17⟩
                   go_simp
                   with_reducible rfl
                  rotate_left
                  ·simp only [Act.put, sA_, sB_, sC_, i64_w, i32_w]
                   rfl
                  refine take_ (i := 7) (N := some 76) (v := ?_) (a' := ?_) #[true, true, true, true, true, true, true, true, true, true, true, false, true, true, true, false, true, true, true, false, true, true, true, false, false, false, false, false] rfl rfl (take_ofW HT_.out HW_.out (by kernel_rfl)) (fun _ _ _ h => h) (Or.inl ⟨by rfl, ?_⟩) hHeld ?_ ?_
                  rotate_left
                  ·rintro w' ⟨s0, s1, s2, s3, s4, s5, s6, s7, s8, s9, s10, s11, s12, s13, s14, s15, s16, s17⟩
                   go_simp
                   with_reducible rfl
                  rotate_left
                  ·simp only [Act.put, sA_, sB_, sC_, i64_w, i32_w]
                   rfl
                  refine take_ (i := 11) (N := some 80) (v := ?_) (a' := ?_) #[true, true, true, true, true, true, true, true, true, true, true, true, true, true, true, false, true, true, true, false, true, true, true, false, false, false, false, false] rfl rfl (take_ofW HT_.out HW_.out (by kernel_rfl)) (fun _ _ _ h => h) (Or.inl ⟨by rfl, ?_⟩) hHeld ?_ ?_
                  rotate_left
                  ·rintro w' ⟨s0, s1, s2, s3, s4, s5, s6, s7, s8, s9, s10, s11, s12, s13, s14, s15, s16, s17⟩
                   go_simp
                   with_reducible rfl
                  rotate_left
                  ·simp only [Act.put, sA_, sB_, sC_, i64_w, i32_w]
                   rfl
                  refine take_ (i := 15) (N := some 84) (v := ?_) (a' := ?_) #[true, true, true, true, true, true, true, true, true, true, true, true, true, true, true, true, true, true, true, false, true, true, true, false, false, false, false, false] rfl rfl (take_ofW HT_.out HW_.out (by kernel_rfl)) (fun _ _ _ h => h) (Or.inl ⟨by rfl, ?_⟩) hHeld ?_ ?_
                  rotate_left
                  ·rintro w' ⟨s0, s1, s2, s3, s4, s5, s6, s7, s8, s9, s10, s11, s12, s13, s14, s15, s16, s17⟩
                   go_simp
                   with_reducible rfl
                  rotate_left
                  ·simp only [Act.put, sA_, sB_, sC_, i64_w, i32_w]
                   rfl
                  refine take_ (i := 19) (N := some 88) (v := ?_) (a' := ?_) #[true, true, true, true, true, true, true, true, true, true, true, true, true, true, true, true, true, true, true, true, true, true, true, false, false, false, false, false] rfl rfl (take_ofW HT_.out HW_.out (by kernel_rfl)) (fun _ _ _ h => h) (Or.inl ⟨by rfl, ?_⟩) hHeld ?_ ?_
                  rotate_left
                  ·rintro w' ⟨s0, s1, s2, s3, s4, s5, s6, s7, s8, s9, s10, s11, s12, s13, s14, s15, s16, s17⟩
                   go_simp
                   with_reducible rfl
                  rotate_left
                  ·simp only [Act.put, sA_, sB_, sC_, i64_w, i32_w]
                   rfl
                  refine take_ (i := 23) (N := some 92) (v := ?_) (a' := ?_) #[true, true, true, true, true, true, true, true, true, true, true, true, true, true, true, true, true, true, true, true, true, true, true, true, false, false, false, false] rfl rfl (take_ofW HT_.out HW_.out (by kernel_rfl)) (fun _ _ _ h => h) (Or.inl ⟨by rfl, ?_⟩) hHeld ?_ ?_
                  rotate_left
                  ·rintro w' ⟨s0, s1, s2, s3, s4, s5, s6, s7, s8, s9, s10, s11, s12, s13, s14, s15, s16, s17⟩
                   go_simp
                   with_reducible rfl
                  rotate_left
                  ·simp only [Act.put, sA_, sB_, sC_, i64_w, i32_w]
                   rfl
                  refine pure_ (i := 24) (N := some 93) (v := ?_) (a' := ?_) #[true, true, true, true, true, true, true, true, true, true, true, true, true, true, true, true, true, true, true, true, true, true, true, true, true, false, false, false] rfl rfl (any_of HT_.out (by kernel_rfl)) (fun _ _ _ h => h) (Or.inl ⟨by rfl, ?_⟩) ?_ ?_
                  rotate_left
                  ·intro w'
                   go_simp
                   with_reducible rfl
                  rotate_left
                  ·simp only [Act.put, sA_, sB_, sC_, i64_w, i32_w]
                   rfl
                  refine pure_ (i := 25) (N := some 94) (v := ?_) (a' := ?_) #[true, true, true, true, true, true, true, true, true, true, true, true, true, true, true, true, true, true, true, true, true, true, true, true, true, true, false, false] rfl rfl (any_of HT_.out (by kernel_rfl)) (fun _ _ _ h => h) (Or.inl ⟨by rfl, ?_⟩) ?_ ?_
                  rotate_left
                  ·intro w'
                   go_simp
                   with_reducible rfl
                  rotate_left
                  ·simp only [Act.put, sA_, sB_, sC_, i64_w, i32_w]
                   rfl
                  refine one_ (i := 26) (N := some 9) #[true, true, true, true, true, true, true, true, true, true, true, true, true, true, true, true, true, true, true, true, true, true, true, true, true, true, true, false] rfl rfl (one_of HT_.out (by kernel_rfl)) (by decide) (fun K hK => ?_)
                  refine box_step ?hg (N := 9) ?hd (cs := #[.int .i64 0, .int .i64 0, .int .i64 0, .string (⟨#[]⟩ : ByteArray), .int .i64 0, .bool false]) (t := 28) ?hr ?_; (case hd => rfl); (case hg => rfl); (case hr => first | (go_simp; done) | (go_simp; rfl))
                  intro gb462 hg w60 hbox hb
                  have HS0_ := (hb.cell (World.block_lt_of_cell? _ _ (hHeld.1))).trans (hHeld.1)
                  have HS1_ := (hb.cell (World.block_lt_of_cell? _ _ (hHeld.2.1))).trans (hHeld.2.1)
                  have HS2_ := (hb.cell (World.block_lt_of_cell? _ _ (hHeld.2.2.1))).trans (hHeld.2.2.1)
                  have HS3_ := (hb.cell (World.block_lt_of_cell? _ _ (hHeld.2.2.2.1))).trans (hHeld.2.2.2.1)
                  have HS4_ := (hb.cell (World.block_lt_of_cell? _ _ (hHeld.2.2.2.2.1))).trans (hHeld.2.2.2.2.1)
                  have HS5_ := (hb.cell (World.block_lt_of_cell? _ _ (hHeld.2.2.2.2.2.1))).trans (hHeld.2.2.2.2.2.1)
                  have HS6_ := (hb.cell (World.block_lt_of_cell? _ _ (hHeld.2.2.2.2.2.2.1))).trans (hHeld.2.2.2.2.2.2.1)
                  have HS7_ := (hb.cell (World.block_lt_of_cell? _ _ (hHeld.2.2.2.2.2.2.2.1))).trans (hHeld.2.2.2.2.2.2.2.1)
                  have HS8_ := (hb.cell (World.block_lt_of_cell? _ _ (hHeld.2.2.2.2.2.2.2.2.1))).trans (hHeld.2.2.2.2.2.2.2.2.1)
                  have HS9_ := (hb.cell (World.block_lt_of_cell? _ _ (hHeld.2.2.2.2.2.2.2.2.2.1))).trans (hHeld.2.2.2.2.2.2.2.2.2.1)
                  have HS10_ := (hb.cell (World.block_lt_of_cell? _ _ (hHeld.2.2.2.2.2.2.2.2.2.2.1))).trans (hHeld.2.2.2.2.2.2.2.2.2.2.1)
                  have HS11_ := (hb.cell (World.block_lt_of_cell? _ _ (hHeld.2.2.2.2.2.2.2.2.2.2.2.1))).trans (hHeld.2.2.2.2.2.2.2.2.2.2.2.1)
                  have HS12_ := (hb.cell (World.block_lt_of_cell? _ _ (hHeld.2.2.2.2.2.2.2.2.2.2.2.2.1))).trans (hHeld.2.2.2.2.2.2.2.2.2.2.2.2.1)
                  have HS13_ := (hb.cell (World.block_lt_of_cell? _ _ (hHeld.2.2.2.2.2.2.2.2.2.2.2.2.2.1))).trans (hHeld.2.2.2.2.2.2.2.2.2.2.2.2.2.1)
                  have HS14_ := (hb.cell (World.block_lt_of_cell? _ _ (hHeld.2.2.2.2.2.2.2.2.2.2.2.2.2.2.1))).trans (hHeld.2.2.2.2.2.2.2.2.2.2.2.2.2.2.1)
                  have HS15_ := (hb.cell (World.block_lt_of_cell? _ _ (hHeld.2.2.2.2.2.2.2.2.2.2.2.2.2.2.2.1))).trans (hHeld.2.2.2.2.2.2.2.2.2.2.2.2.2.2.2.1)
                  have HS16_ := (hb.cell (World.block_lt_of_cell? _ _ (hHeld.2.2.2.2.2.2.2.2.2.2.2.2.2.2.2.2.1))).trans (hHeld.2.2.2.2.2.2.2.2.2.2.2.2.2.2.2.2.1)
                  have HS17_ := (hb.cell (World.block_lt_of_cell? _ _ (hHeld.2.2.2.2.2.2.2.2.2.2.2.2.2.2.2.2.2))).trans (hHeld.2.2.2.2.2.2.2.2.2.2.2.2.2.2.2.2.2)
                  have n0_ := Aside0.mk (Kd.R_below kz13_18 hb)
                  have n1_ := Aside0.mk (blk_below (g := gb443) (o := .cells #[.int .i64 x444000_3, .int .i64 x444001_3, .int .i64 x444002_3, .string x444003_3, .int .i64 x444004_3, .bool x444005_3] 28 (0, 0)) kz13_6 hb)
                  have n2_ := Aside0.mk (below_step kz13_2 hb)
                  have n3_ := Aside0.mk (hbox)
                  have n4_ := Aside0.mk ((by rw [hg]; exact (below_size kz13_2) : w.heap.size ≤ gb462))
                  have n5_ := Aside0.mk ((by rw [hg]; exact (below_size kz13_2) : w.heap.size ≤ gb462))
                  have n6_ := Aside0.mk ((by rw [hg]; exact Nat.ne_of_lt (blk_lt (g := gb443) (o := .cells #[.int .i64 x444000_3, .int .i64 x444001_3, .int .i64 x444002_3, .string x444003_3, .int .i64 x444004_3, .bool x444005_3] 28 (0, 0)) kz13_6) : gb443 ≠ gb462))
                  have n7_ := Aside0.mk ((by rw [hg]; exact Nat.ne_of_gt (blk_lt (g := gb443) (o := .cells #[.int .i64 x444000_3, .int .i64 x444001_3, .int .i64 x444002_3, .string x444003_3, .int .i64 x444004_3, .bool x444005_3] 28 (0, 0)) kz13_6) : gb462 ≠ gb443))
                  clear HO_7
                  clear BK443
                  clear HB
                  have HO_7 := n0_
                  have BK443 := n1_
                  have HB := n2_
                  have BK462 := n3_
                  have GW462 := n4_
                  have GE462 := n5_
                  have NB443_462 := n6_
                  have NB462_443 := n7_
                  clear n0_ n1_ n2_ n3_ n4_ n5_ n6_ n7_
                  clear hb hbox hg
                  refine hK.out _ _ ⟨HS0_, HS1_, HS2_, HS3_, HS4_, HS5_, HS6_, HS7_, HS8_, HS9_, HS10_, HS11_, HS12_, HS13_, HS14_, HS15_, HS16_, HS17_⟩ (fun hHeld => ?_)
                  clear hK K
                  refine norm_ (a' := ?_) ?_ ?_
                  rotate_left
                  ·show Act.put _ (some 9) _ = _
                   simp only [Act.put, sA_, sB_, sC_, i64_w, i32_w]
                   rfl
                  refine one_ (i := 27) (N := none) #[true, true, true, true, true, true, true, true, true, true, true, true, true, true, true, true, true, true, true, true, true, true, true, true, true, true, true, true] rfl rfl (one_of HT_.out (by kernel_rfl)) (by decide) (fun K hK => ?_)
                  have hs61 : w60.cell? ⟨gb462, 0, none⟩ = some (.int .i64 0) := (blk_cell BK462.out 0).trans rfl
                  have hfs61 := blk_frozen BK462.out 0
                  have hns61_0 := NB443_462.out
                  have hms61_0 := NB462_443.out
                  have hs62 : w60.cell? ⟨gb462, 1, none⟩ = some (.int .i64 0) := (blk_cell BK462.out 1).trans rfl
                  have hfs62 := blk_frozen BK462.out 1
                  have hns62_0 := NB443_462.out
                  have hms62_0 := NB462_443.out
                  have hs63 : w60.cell? ⟨gb462, 2, none⟩ = some (.int .i64 0) := (blk_cell BK462.out 2).trans rfl
                  have hfs63 := blk_frozen BK462.out 2
                  have hns63_0 := NB443_462.out
                  have hms63_0 := NB462_443.out
                  have hs64 : w60.cell? ⟨gb462, 3, none⟩ = some (.string (⟨#[]⟩ : ByteArray)) := (blk_cell BK462.out 3).trans rfl
                  have hfs64 := blk_frozen BK462.out 3
                  have hns64_0 := NB443_462.out
                  have hms64_0 := NB462_443.out
                  have hs65 : w60.cell? ⟨gb462, 4, none⟩ = some (.int .i64 0) := (blk_cell BK462.out 4).trans rfl
                  have hfs65 := blk_frozen BK462.out 4
                  have hns65_0 := NB443_462.out
                  have hms65_0 := NB462_443.out
                  have hs66 : w60.cell? ⟨gb462, 5, none⟩ = some (.bool false) := (blk_cell BK462.out 5).trans rfl
                  have hfs66 := blk_frozen BK462.out 5
                  have hns66_0 := NB443_462.out
                  have hms66_0 := NB462_443.out
                  refine skip_ (w1 := ?_) (by rfl) rfl ?_ ?_
                  rotate_left
                  ·go_simp
                   rfl
                  have hown_ : ad456.block ≠ gb462 := kz13_15
                  refine hK.out _ _ ?hS_ (fun hHeld => ?_)
                  case hS_ => exact ⟨cell_far6 hown_ hHeld.1, cell_far6 hown_ hHeld.2.1, cell_far6 hown_ hHeld.2.2.1, cell_far6 hown_ hHeld.2.2.2.1, cell_far6 hown_ hHeld.2.2.2.2.1, cell_far6 hown_ hHeld.2.2.2.2.2.1, cell_far6 hown_ hHeld.2.2.2.2.2.2.1, cell_far6 hown_ hHeld.2.2.2.2.2.2.2.1, cell_far6 hown_ hHeld.2.2.2.2.2.2.2.2.1, cell_far6 hown_ hHeld.2.2.2.2.2.2.2.2.2.1, cell_far6 hown_ hHeld.2.2.2.2.2.2.2.2.2.2.1, cell_far6 hown_ hHeld.2.2.2.2.2.2.2.2.2.2.2.1, cell_far6 hown_ hHeld.2.2.2.2.2.2.2.2.2.2.2.2.1, cell_far6 hown_ hHeld.2.2.2.2.2.2.2.2.2.2.2.2.2.1, cell_far6 hown_ hHeld.2.2.2.2.2.2.2.2.2.2.2.2.2.2.1, cell_far6 hown_ hHeld.2.2.2.2.2.2.2.2.2.2.2.2.2.2.2.1, cell_far6 hown_ hHeld.2.2.2.2.2.2.2.2.2.2.2.2.2.2.2.2.1, cell_far6 hown_ hHeld.2.2.2.2.2.2.2.2.2.2.2.2.2.2.2.2.2⟩
                  clear hown_
                  clear hK K
                  refine done_ (done_of HT_.out (by kernel_rfl)) ?_
                  have p463 : 0 ≤ (5 : Int) := (by omega)
                  have q463 : 5 < (t449.length : Int) := of_decide_eq_true kz13_4
                  obtain ⟨ad463, e463, hx463_0, hx463_1, hx463_2⟩ := at_T117 (Kd.R_reads' HO_7.out).2.2 5 p463 q463
                  obtain rfl : ad456 = ad463 := (by injection e463)
                  (try simp only [show (5 : Int).toNat = 5 from rfl, Nat.reduceMul, Nat.reduceEqDiff, Go.Addr.add, ↓reduceIte] at hx463_0)
                  (try simp only [show (5 : Int).toNat = 5 from rfl, Nat.reduceMul, Nat.reduceEqDiff, Go.Addr.add, ↓reduceIte] at hx463_1)
                  (try simp only [show (5 : Int).toNat = 5 from rfl, Nat.reduceMul, Nat.reduceEqDiff, Go.Addr.add, ↓reduceIte] at hx463_2)
                  have qi463 : (5 < t449.length) = True := eq_true (by omega)
                  (try rw [show ((5 : Int)).toNat = 5 from rfl] at hx463_0)
                  (try rw [show 5 * 3 = 15 from rfl] at hx463_0)
                  (try rw [show ((5 : Int)).toNat = 5 from rfl] at hx463_1)
                  (try rw [show 5 * 3 = 15 from rfl] at hx463_1)
                  (try rw [show ((5 : Int)).toNat = 5 from rfl] at hx463_2)
                  (try rw [show 5 * 3 = 15 from rfl] at hx463_2)
                  have hn463_0 : ad456.block ≠ gb462 := Kd.own_blk (Kd.R_ne HO_7.out BK462.out (by decide))
                  have hn463_1 : ad456.block ≠ gb462 := Kd.own_blk (Kd.R_ne HO_7.out BK462.out (by decide))
                  have hn463_2 : ad456.block ≠ gb462 := Kd.own_blk (Kd.R_ne HO_7.out BK462.out (by decide))
                  have hn463_3 : ad456.block ≠ gb462 := Kd.own_blk (Kd.R_ne HO_7.out BK462.out (by decide))
                  have hn463_4 : ad456.block ≠ gb462 := Kd.own_blk (Kd.R_ne HO_7.out BK462.out (by decide))
                  have hn463_5 : ad456.block ≠ gb462 := Kd.own_blk (Kd.R_ne HO_7.out BK462.out (by decide))
                  replace hx463_0 := (cell_far (p := ⟨gb462, 0, none⟩) kz13_12 (.int .i64 ((rd_T117 t449 0).f1))).trans hx463_0
                  replace hx463_1 := (cell_far (p := ⟨gb462, 0, none⟩) kz13_12 (.int .i64 ((rd_T117 t449 0).f1))).trans hx463_1
                  replace hx463_2 := (cell_far (p := ⟨gb462, 0, none⟩) kz13_12 (.int .i64 ((rd_T117 t449 0).f1))).trans hx463_2
                  replace hx463_0 := (cell_far (p := ⟨gb462, 1, none⟩) kz13_11 (.int .i64 ((rd_T117 t449 1).f1))).trans hx463_0
                  replace hx463_1 := (cell_far (p := ⟨gb462, 1, none⟩) kz13_11 (.int .i64 ((rd_T117 t449 1).f1))).trans hx463_1
                  replace hx463_2 := (cell_far (p := ⟨gb462, 1, none⟩) kz13_11 (.int .i64 ((rd_T117 t449 1).f1))).trans hx463_2
                  replace hx463_0 := (cell_far (p := ⟨gb462, 2, none⟩) kz13_10 (.int .i64 ((rd_T117 t449 2).f1))).trans hx463_0
                  replace hx463_1 := (cell_far (p := ⟨gb462, 2, none⟩) kz13_10 (.int .i64 ((rd_T117 t449 2).f1))).trans hx463_1
                  replace hx463_2 := (cell_far (p := ⟨gb462, 2, none⟩) kz13_10 (.int .i64 ((rd_T117 t449 2).f1))).trans hx463_2
                  replace hx463_0 := (cell_far (p := ⟨gb462, 3, none⟩) kz13_9 (.string ((rd_T117 t449 3).f2))).trans hx463_0
                  replace hx463_1 := (cell_far (p := ⟨gb462, 3, none⟩) kz13_9 (.string ((rd_T117 t449 3).f2))).trans hx463_1
                  replace hx463_2 := (cell_far (p := ⟨gb462, 3, none⟩) kz13_9 (.string ((rd_T117 t449 3).f2))).trans hx463_2
                  replace hx463_0 := (cell_far (p := ⟨gb462, 4, none⟩) kz13_8 (.int .i64 ((rd_T117 t449 4).f1))).trans hx463_0
                  replace hx463_1 := (cell_far (p := ⟨gb462, 4, none⟩) kz13_8 (.int .i64 ((rd_T117 t449 4).f1))).trans hx463_1
                  replace hx463_2 := (cell_far (p := ⟨gb462, 4, none⟩) kz13_8 (.int .i64 ((rd_T117 t449 4).f1))).trans hx463_2
                  replace hx463_0 := (cell_far (p := ⟨gb462, 5, none⟩) kz13_7 (.bool (((rd_T117 t449 5).f1) == 1))).trans hx463_0
                  replace hx463_1 := (cell_far (p := ⟨gb462, 5, none⟩) kz13_7 (.bool (((rd_T117 t449 5).f1) == 1))).trans hx463_1
                  replace hx463_2 := (cell_far (p := ⟨gb462, 5, none⟩) kz13_7 (.bool (((rd_T117 t449 5).f1) == 1))).trans hx463_2
                  clear hn463_0
                  clear hn463_1
                  clear hn463_2
                  clear hn463_3
                  clear hn463_4
                  clear hn463_5
                  replace p463 := eq_true p463
                  replace q463 := eq_true q463
                  have hnb67 := NB462_443.out
                  have hnc67 := NB443_462.out
                  have hcz68_0 : w60.cell? ⟨gb462, 0, none⟩ = some (.int .i64 0) := (blk_cell BK462.out 0).trans rfl
                  have hcz68_1 : w60.cell? ⟨gb462, 1, none⟩ = some (.int .i64 0) := (blk_cell BK462.out 1).trans rfl
                  have hcz68_2 : w60.cell? ⟨gb462, 2, none⟩ = some (.int .i64 0) := (blk_cell BK462.out 2).trans rfl
                  have hcz68_3 : w60.cell? ⟨gb462, 3, none⟩ = some (.string (⟨#[]⟩ : ByteArray)) := (blk_cell BK462.out 3).trans rfl
                  have hcz68_4 : w60.cell? ⟨gb462, 4, none⟩ = some (.int .i64 0) := (blk_cell BK462.out 4).trans rfl
                  have hcz68_5 : w60.cell? ⟨gb462, 5, none⟩ = some (.bool false) := (blk_cell BK462.out 5).trans rfl
                  have hfz68_0 := blk_frozen BK462.out 0
                  have hfz68_1 := blk_frozen BK462.out 1
                  have hfz68_2 := blk_frozen BK462.out 2
                  have hfz68_3 := blk_frozen BK462.out 3
                  have hfz68_4 := blk_frozen BK462.out 4
                  have hfz68_5 := blk_frozen BK462.out 5
                  try go_wp2_with (first | (go_at_call 37; (with_reducible refine (tumbrelref18_Formed.calls ((rd_T117 t449 0).f1) ((rd_T117 t449 1).f1) ((rd_T117 t449 2).f1) ((rd_T117 t449 3).f2) ((rd_T117 t449 4).f1) (((rd_T117 t449 5).f1) == 1) false _ A44.out).mono ?_); rintro e w69 ⟨rfl, hb⟩; have n0_ := Aside0.mk (Kd.R_below kz13_14 hb); have n1_ := Aside0.mk (blk_below (g := gb443) (o := .cells #[.int .i64 x444000_3, .int .i64 x444001_3, .int .i64 x444002_3, .string x444003_3, .int .i64 x444004_3, .bool x444005_3] 28 (0, 0)) kz13_13 hb); have n2_ := Aside0.mk (blk_below (g := gb462) (o := .cells #[.int .i64 ((rd_T117 t449 0).f1), .int .i64 ((rd_T117 t449 1).f1), .int .i64 ((rd_T117 t449 2).f1), .string ((rd_T117 t449 3).f2), .int .i64 ((rd_T117 t449 4).f1), .bool (((rd_T117 t449 5).f1) == 1)] 28 (0, 0)) kz13_3 hb); have n3_ := Aside0.mk (below_step (by repeat (first | (with_reducible first | exact HB.out | apply below_alloc | apply pw_below_drewN | apply below_drew1 | refine below_set ?_ GE443.out | refine below_set ?_ GE462.out) | exact HB.out)) hb); clear HO_7; clear BK443; clear BK462; clear HB; have HO_7 := n0_; have BK443 := n1_; have BK462 := n2_; have HB := n3_; clear n0_ n1_ n2_ n3_; (try clear hb); (try clear hb2); (try clear hk); (try clear hi); have hcz70_0 : w69.cell? ⟨gb443, 0, none⟩ = some (.int .i64 x444000_3) := (blk_cell BK443.out 0).trans rfl; have hcz70_1 : w69.cell? ⟨gb443, 1, none⟩ = some (.int .i64 x444001_3) := (blk_cell BK443.out 1).trans rfl; have hcz70_2 : w69.cell? ⟨gb443, 2, none⟩ = some (.int .i64 x444002_3) := (blk_cell BK443.out 2).trans rfl; have hcz70_3 : w69.cell? ⟨gb443, 3, none⟩ = some (.string x444003_3) := (blk_cell BK443.out 3).trans rfl; have hcz70_4 : w69.cell? ⟨gb443, 4, none⟩ = some (.int .i64 x444004_3) := (blk_cell BK443.out 4).trans rfl; have hcz70_5 : w69.cell? ⟨gb443, 5, none⟩ = some (.bool x444005_3) := (blk_cell BK443.out 5).trans rfl; have hfz70_0 := blk_frozen BK443.out 0; have hfz70_1 := blk_frozen BK443.out 1; have hfz70_2 := blk_frozen BK443.out 2; have hfz70_3 := blk_frozen BK443.out 3; have hfz70_4 := blk_frozen BK443.out 4; have hfz70_5 := blk_frozen BK443.out 5))
                  refine bodyPost_ret (results_ct rfl _ _ gb443 28 #[.int .i64 0, .int .i64 0, .int .i64 0, .string (⟨#[]⟩ : ByteArray), .int .i64 0, .bool false] (0, 0) _ rfl kz13_1 Try.underlying28 rfl (by kernel_rfl)) rfl ?_
                  exact ⟨by first | rfl | (simp [errW_none, errW_some] <;> rfl) | (simp [*, errW_none, errW_some] <;> rfl), by repeat (first | (with_reducible first | exact HB.out | apply below_alloc | apply pw_below_drewN | apply below_drew1 | refine below_set ?_ GE443.out | refine below_set ?_ GE462.out) | exact HB.out)⟩
               ·rw [if_neg c32] at H
                exact absurd H (by simp)
              ·rw [if_neg c31] at H
               exact absurd H (by simp)
             ·rw [if_neg c30] at H
              exact absurd H (by simp)
            ·rw [if_neg c29] at H
             exact absurd H (by simp)
           ·rw [if_neg c28] at H
            exact absurd H (by simp)
          ·rw [if_neg c27] at H
           exact absurd H (by simp)

end Go.Proofs.Ytdglbiafpofeeaa.POutboxDecodes
