-- Written by fprint.py (wip), by way of the printer's functions; where they are turned, by texts of mine.
import Derived.Test.YtdglbiafpofeeaaPOutboxTurnedx0
import Derived.Test.YtdglbiafpofeeaaPOutboxTurnedx1
namespace Go.Proofs.Ytdglbiafpofeeaa.POutboxTurned
open Go.RowKit Go.Proofs.YtdglbiafpofeeaaW.PrintWords Go.Proofs.YtdglbiafpofeeaaW.PrintLast Go.Proofs.YtdglbiafpofeeaaW.PrintMore
attribute [local go_sem] max2_int min2_int max_two min_two max_three min_three max_four min_four   -- for this text's walks alone
set_option linter.unusedVariables false
set_option linter.unusedSimpArgs false
theorem kz4_1 {p_ : Prop} (h_ : p_ := by repeat (first | (with_reducible first | exact HB.out | apply below_alloc | apply pw_below_drewN | apply below_drew1) | exact HB.out)) : p_ := h_
theorem kz4_2 {p_ : Prop} (h_ : p_ := by repeat (first | (with_reducible first | exact HB.out | apply below_alloc | apply pw_below_drewN | apply below_drew1 | refine below_set ?_ GE272.out) | exact HB.out)) : p_ := h_
theorem kz4_3 {p_ : Prop} (h_ : p_ := by (try simp only [List.map_toArray, List.map_cons, List.map_nil]); first | done | rfl | (simp only [List.length_drop, List.length_take]; rfl)) : p_ := h_
theorem kz4_4 {p_ : Prop} (h_ : p_ := by first | (with_reducible assumption) | assumption) : p_ := h_
theorem kz4_5 {p_ : Prop} (h_ : p_ := by (with_reducible repeat (first | apply Kd.R_alloc | apply Kd.R_drewN | apply Kd.R_drew)); exact HO_7.out) : p_ := h_
theorem kz4_6 {p_ : Prop} (h_ : p_ := by (with_reducible repeat (first | apply Kd.V_alloc | apply Kd.V_drewN | apply Kd.V_drew)); exact HO_0.out) : p_ := h_
theorem kz4_7 {p_ : Prop} (h_ : p_ := by rw [hw]; exact (by (with_reducible repeat (first | refine blk_drewN ?_ _ | refine blk_drew ?_ | refine blk_alloc ?_ _)); refine blk_put (cs := #[.bool false, .int .i64 0, .string (⟨#[]⟩ : ByteArray)]) ?_ 0 _ rfl; (with_reducible repeat (first | refine blk_drewN ?_ _ | refine blk_drew ?_ | refine blk_alloc ?_ _)); exact BK272.out)) : p_ := h_
theorem kz4_8 {p_ : Prop} (h_ : p_ := by rw [hw]; exact (by (with_reducible repeat (first | apply Kd.V_alloc | apply Kd.V_drewN | apply Kd.V_drew)); exact Kd.V_mono (Kd.V_far (p := ⟨gb272, 0, none⟩) (Kd.V_mono HO_0.out (fun k_ hk => (⟨hk, hk.2⟩ : _ ∧ k_ ≠ gb272))) (fun _ hk => hk.2) (.bool true)) (fun _ hk => ⟨hk.1.1.1, ⟨hk.1.1.2, hk.1.2⟩⟩))) : p_ := h_
theorem kz4_9 {p_ : Prop} (h_ : p_ := by rw [hw]; exact (by (with_reducible repeat (first | apply Kd.R_alloc | apply Kd.R_drewN | apply Kd.R_drew)); exact Kd.R_mono (Kd.R_far (p := ⟨gb272, 0, none⟩) (Kd.R_mono HO_7.out (fun k_ hk => (⟨hk, hk.2⟩ : _ ∧ k_ ≠ gb272))) (fun _ hk => hk.2) (.bool true)) (fun _ hk => ⟨hk.1.1, hk.1.2⟩))) : p_ := h_
theorem kz4_10 {p_ : Prop} (h_ : p_ := by (with_reducible repeat (first | refine blk_drewN ?_ _ | refine blk_drew ?_ | refine blk_alloc ?_ _)); exact BK272.out) : p_ := h_
theorem kz4_11 {p_ : Prop} (h_ : p_ := by first | rfl | (simp; done) | (simp [*]; done)) : p_ := h_
theorem kz4_12 {p_ : Prop} (h_ : p_ := by (with_reducible repeat (first | apply Kd.V_alloc | apply Kd.V_drewN | apply Kd.V_drew)); exact Kd.V_mono HO278.out (fun _ hk => ⟨hk.1.1, ⟨hk.1.2, hk.2⟩⟩)) : p_ := h_
theorem kz4_13 {p_ : Prop} (h_ : p_ := by (with_reducible repeat (first | apply Kd.V_alloc | apply Kd.V_drewN | apply Kd.V_drew)); exact Kd.V_mono HO_0.out (fun _ hk => ⟨hk.1.1, ⟨hk.1.2, hk.2⟩⟩)) : p_ := h_
theorem kz4_14 {p_ : Prop} (h_ : p_ := by (with_reducible repeat (first | refine blk_drewN ?_ _ | refine blk_drew ?_ | refine blk_alloc ?_ _)); refine blk_put (cs := #[.bool false, .int .i64 0, .string (⟨#[]⟩ : ByteArray)]) ?_ 1 _ rfl; (with_reducible repeat (first | refine blk_drewN ?_ _ | refine blk_drew ?_ | refine blk_alloc ?_ _)); exact BK272.out) : p_ := h_
theorem kz4_15 {p_ : Prop} (h_ : p_ := by (with_reducible repeat (first | refine blk_drewN ?_ _ | refine blk_drew ?_ | refine blk_alloc ?_ _)); refine blk_put (cs := #[.bool true, .int .i64 0, .string (⟨#[]⟩ : ByteArray)]) ?_ 2 _ rfl; (with_reducible repeat (first | refine blk_drewN ?_ _ | refine blk_drew ?_ | refine blk_alloc ?_ _)); exact BK272.out) : p_ := h_
theorem kz4_16 {p_ : Prop} (h_ : p_ := by (with_reducible repeat (first | apply Kd.V_alloc | apply Kd.V_drewN | apply Kd.V_drew)); exact HO294.out) : p_ := h_

/-! ### pack_TakeNumber: function 77 -/
def pack_TakeNumber.l0 : Nat → Int → Int → List Int → Int → Int → Option (Int × Int × Int)
 | 0, _, _, _, _, _ => none
 | k + 1, x5, x6, x27, x28, x29 => if x29 < x28 then (if 0 ≤ x29 then (if x29 < (x27.length : Int) then (if x29 = 0 then (pack_TakeNumber.l0 k x5 (wrap64 (IntKind.i8.wrap (rd x27 x29))) x27 x28 (wrap64 (x29 + 1))) else (pack_TakeNumber.l0 k x5 (Go.bits .or .i64 (wrap64 (x6 * 256)) (wrap64 (rd x27 x29))) x27 x28 (wrap64 (x29 + 1)))) else (none)) else (none)) else ((pack_width.f k x6).bind fun t253 => (if t253 = x5 then (some (x6, wrap64 (1 + x5), 0)) else (some (0, 0, 2))))
def pack_TakeNumber.f (k : Nat) (l0 : List Int) : Option (Int × Int × Int) := if (l0.length : Int) = 0 then (some (0, 0, 5)) else (if 0 < (l0.length : Int) then (if (wrap64 (rd l0 0)) > 8 then (some (0, 0, 2)) else (if (l0.length : Int) ≤ (wrap64 (rd l0 0)) then (some (0, 0, 5)) else (if 1 ≤ (wrap64 (1 + (wrap64 (rd l0 0)))) then (if (wrap64 (1 + (wrap64 (rd l0 0)))) ≤ (l0.length : Int) then ((some ((l0.take ((wrap64 (1 + (wrap64 (rd l0 0)))) : Int).toNat).drop 1 : List Int)).bind fun y248 => (pack_TakeNumber.l0 k (wrap64 (rd l0 0)) 0 y248 (y248.length : Int) 0)) else (none)) else (none)))) else (none))
theorem pack_TakeNumber.mono_l : ∀ k, (∀ y0 y1 y2 y3 y4, LeO (pack_TakeNumber.l0 k y0 y1 y2 y3 y4) (pack_TakeNumber.l0 (k + 1) y0 y1 y2 y3 y4))
 | 0 => fun _ _ _ _ _ r h => by simp [pack_TakeNumber.l0] at h
 | k + 1 => by
  have ih0 := pack_TakeNumber.mono_l k
  ·intro y0 y1 y2 y3 y4
   unfold pack_TakeNumber.l0
   repeat' first
   | (with_reducible exact ih0 _ _ _ _ _)
   | (with_reducible exact pack_width.mono _ _)
   | (with_reducible exact LeO.refl _)
   | (with_reducible exact LeO.none _)
   | (with_reducible refine LeO.ite ?_ ?_)
   | (with_reducible refine LeO.bind ?_ (fun _ => ?_))
   | exact ih0 _ _ _ _ _
   | exact pack_width.mono _ _
   | exact LeO.none _
   | refine LeO.ite ?_ ?_
   | refine LeO.bind ?_ (fun _ => ?_)
theorem pack_TakeNumber.mono : ∀ a0 k, LeO (pack_TakeNumber.f k a0) (pack_TakeNumber.f (k + 1) a0) := by
 intro a0 k
 have ih0 := pack_TakeNumber.mono_l k
 unfold pack_TakeNumber.f
 repeat' first
   | (with_reducible exact ih0 _ _ _ _ _)
   | (with_reducible exact pack_width.mono _ _)
   | (with_reducible exact LeO.refl _)
   | (with_reducible exact LeO.none _)
   | (with_reducible refine LeO.ite ?_ ?_)
   | (with_reducible refine LeO.bind ?_ (fun _ => ?_))
   | exact ih0 _ _ _ _ _
   | exact pack_width.mono _ _
   | exact LeO.none _
   | refine LeO.ite ?_ ?_
   | refine LeO.bind ?_ (fun _ => ?_)
set_option maxHeartbeats 8000000 in
set_option maxRecDepth 100000 in
theorem pack_TakeNumber.calls (k : Nat) (A0 : Option Addr) (c0 : Nat) (l0 : List Int) (r1 : Int) (r2 : Int) (r3 : Int) (w : World) (hr0 : Kd.C (Kd.int .u8) w A0 l0.length l0) (hc0 : l0.length ≤ c0) (h : pack_TakeNumber.f k l0 = some (r1, r2, r3)) :
  Calls Try.prog 77 #[.slice A0 l0.length c0] w fun e w' => e = .returned (.tuple #[.int .i64 r1, .int .i64 r2, .int .i64 r3]) ∧ Drawn0 w w' := by
 have HR0 := Aside0.mk hr0
 have HC0 := Aside0.mk hc0
 clear hr0 hc0
 have H : (if (l0.length : Int) = 0 then (some (0, 0, 5)) else (if 0 < (l0.length : Int) then (if (wrap64 (rd l0 0)) > 8 then (some (0, 0, 2)) else (if (l0.length : Int) ≤ (wrap64 (rd l0 0)) then (some (0, 0, 5)) else (if 1 ≤ (wrap64 (1 + (wrap64 (rd l0 0)))) then (if (wrap64 (1 + (wrap64 (rd l0 0)))) ≤ (l0.length : Int) then ((some ((l0.take ((wrap64 (1 + (wrap64 (rd l0 0)))) : Int).toNat).drop 1 : List Int)).bind fun y248 => (pack_TakeNumber.l0 k (wrap64 (rd l0 0)) 0 y248 (y248.length : Int) 0)) else (none)) else (none)))) else (none))) = some (r1, r2, r3) := h
 clear h
 by_cases c2 : (l0.length : Int) = 0
 ·rw [if_pos c2] at H
  have c2b0 : ((l0.length : Int) == 0) = true := beq_iff_eq.mpr c2
  have c2b1 : ((l0.length : Int) != 0) = false := bne_eq_false_iff_eq.mpr c2
  clear c2
  simp only [Option.some.injEq, Prod.mk.injEq] at H
  obtain ⟨rfl, rfl, rfl⟩ := H
  go_enter Try.func77, Try.ntmps77
  go_wp2
  go_ret3
  exact ⟨by first | rfl | (simp; done) | (simp [*]; done), by repeat (first | exact Drawn0.refl _ | apply Drawn0.step)⟩
 ·rw [if_neg c2] at H
  have c2b0 : ((l0.length : Int) == 0) = false := beq_eq_false_iff_ne.mpr c2
  have c2b1 : ((l0.length : Int) != 0) = true := bne_iff_ne.mpr c2
  have c2b2 : ¬ (l0 = []) := fun h_ => c2 (by rw [h_]; rfl)
  by_cases c3 : 0 < (l0.length : Int)
  ·rw [if_pos c3] at H
   have c3b0 : decide (0 < (l0.length : Int)) = true := decide_eq_true c3
   have c3b1 : decide (0 < l0.length) = true := decide_eq_true (by omega)
   clear c3
   by_cases c4 : (wrap64 (rd l0 0)) > 8
   ·rw [if_pos c4] at H
    have c4b0 : decide (8 < (wrap64 (rd l0 0))) = true := decide_eq_true c4
    clear c4
    simp only [Option.some.injEq, Prod.mk.injEq] at H
    obtain ⟨rfl, rfl, rfl⟩ := H
    have p247 : 0 ≤ (0 : Int) := (by omega)
    have q247 : 0 < (l0.length : Int) := of_decide_eq_true kz4_4
    obtain ⟨ad247, e247, hx247_0⟩ := Kd.at_int HR0.out 0 p247 q247
    cases e247
    have qi247 : (0 < l0.length) = True := eq_true (by omega)
    (try rw [show ((0 : Int)).toNat = 0 from rfl] at hx247_0)
    (try rw [Addr.add_zero'] at hx247_0)
    replace p247 := eq_true p247
    replace q247 := eq_true q247
    go_enter Try.func77, Try.ntmps77
    go_wp2
    go_ret3
    exact ⟨by first | rfl | (simp; done) | (simp [*]; done), by repeat (first | exact Drawn0.refl _ | apply Drawn0.step)⟩
   ·rw [if_neg c4] at H
    have c4b0 : decide (8 < (wrap64 (rd l0 0))) = false := decide_eq_false c4
    clear c4
    by_cases c5 : (l0.length : Int) ≤ (wrap64 (rd l0 0))
    ·rw [if_pos c5] at H
     have c5b0 : decide ((l0.length : Int) ≤ (wrap64 (rd l0 0))) = true := decide_eq_true c5
     clear c5
     simp only [Option.some.injEq, Prod.mk.injEq] at H
     obtain ⟨rfl, rfl, rfl⟩ := H
     have p247 : 0 ≤ (0 : Int) := (by omega)
     have q247 : 0 < (l0.length : Int) := of_decide_eq_true kz4_4
     obtain ⟨ad247, e247, hx247_0⟩ := Kd.at_int HR0.out 0 p247 q247
     cases e247
     have qi247 : (0 < l0.length) = True := eq_true (by omega)
     (try rw [show ((0 : Int)).toNat = 0 from rfl] at hx247_0)
     (try rw [Addr.add_zero'] at hx247_0)
     replace p247 := eq_true p247
     replace q247 := eq_true q247
     go_enter Try.func77, Try.ntmps77
     go_wp2
     go_ret3
     exact ⟨by first | rfl | (simp; done) | (simp [*]; done), by repeat (first | exact Drawn0.refl _ | apply Drawn0.step)⟩
    ·rw [if_neg c5] at H
     have c5b0 : decide ((l0.length : Int) ≤ (wrap64 (rd l0 0))) = false := decide_eq_false c5
     clear c5
     by_cases c6 : 1 ≤ (wrap64 (1 + (wrap64 (rd l0 0))))
     ·rw [if_pos c6] at H
      have c6b0 := eq_true c6
      have c6b1 : decide (1 ≤ (wrap64 (1 + (wrap64 (rd l0 0))))) = true := decide_eq_true c6
      by_cases c7 : (wrap64 (1 + (wrap64 (rd l0 0)))) ≤ (l0.length : Int)
      ·rw [if_pos c7] at H
       have c7b0 := eq_true c7
       have c7b1 : decide ((wrap64 (1 + (wrap64 (rd l0 0)))) ≤ (l0.length : Int)) = true := decide_eq_true c7
       obtain ⟨y248, hy248⟩ : ∃ y_ : List Int, y_ = ((l0.take ((wrap64 (1 + (wrap64 (rd l0 0)))) : Int).toNat).drop 1) := ⟨_, rfl⟩
       replace H : (pack_TakeNumber.l0 k (wrap64 (rd l0 0)) 0 y248 (y248.length : Int) 0) = some (r1, r2, r3) := by first | (rw [hy248]; with_reducible exact H) | (have H2_ := (Option.bind_some _ _).symm.trans H; rw [hy248]; with_reducible exact H2_) | (have H2_ := (Option.bind_some _ _).symm.trans H; with_reducible exact H2_) | with_reducible exact H | (rw [hy248]; exact H) | exact H
       have Ny248 := Aside0.mk hy248
       clear hy248
       have H' := Aside0.mk H
       clear H
       have p247 : 0 ≤ (0 : Int) := (by omega)
       have q247 : 0 < (l0.length : Int) := of_decide_eq_true kz4_4
       obtain ⟨ad247, e247, hx247_0⟩ := Kd.at_int HR0.out 0 p247 q247
       cases e247
       have qi247 : (0 < l0.length) = True := eq_true (by omega)
       (try rw [show ((0 : Int)).toNat = 0 from rfl] at hx247_0)
       (try rw [Addr.add_zero'] at hx247_0)
       replace p247 := eq_true p247
       replace q247 := eq_true q247
       have q8 : ((wrap64 (1 + (wrap64 (rd l0 0)))) : Int) ≤ ((l0.length : Int) : Int) := of_decide_eq_true kz4_4
       obtain ⟨i08, hi08, _, hsz8, _⟩ := info_parts info5
       have hroom8 : l0.length ≤ c0 := HC0.out
       have hC8 : Kd.C (Kd.int .u8) _ (some ad247) l0.length l0 := HR0.out
       have ql8 : (1 : Int) ≤ ((wrap64 (1 + (wrap64 (rd l0 0)))) : Int) := of_decide_eq_true kz4_4
       have hcut8 := cut_mid (P := Try.prog) 50 5 .i64 .i64 Try.underlying50 hi08 1 hsz8 (some ad247) l0.length c0 1 (wrap64 (1 + (wrap64 (rd l0 0)))) (by omega) ql8 q8 hroom8
       have hr8 := Kd.C_mid (lo := (1 : Int).toNat) (hi := ((wrap64 (1 + (wrap64 (rd l0 0)))) : Int).toNat) (c := c0) hC8 (by omega) (by omega) hroom8
       obtain ⟨A8, hA8⟩ : ∃ A1, A1 = (if c0 = (1 : Int).toNat then (some ad247) else ((some ad247) : Option Addr).map (·.add ((1 : Int).toNat * 1))) := ⟨_, rfl⟩
       obtain ⟨c8, hc8⟩ : ∃ c1, c1 = c0 - (1 : Int).toNat := ⟨_, rfl⟩
       have hy8 : y248.length = ((wrap64 (1 + (wrap64 (rd l0 0)))) : Int).toNat - (1 : Int).toNat := (by rw [Ny248.out, List.length_drop, List.length_take] <;> omega)
       rw [show ((l0).take ((wrap64 (1 + (wrap64 (rd l0 0)))) : Int).toNat).drop (1 : Int).toNat = y248 from Ny248.out.symm] at hr8
       replace hr8 : Kd.C (Kd.int .u8) _ A8 y248.length y248 := (by rw [hA8]; exact hr8)
       rw [← hy8, ← hA8, ← hc8] at hcut8
       have HR251 := Aside0.mk hr8
       have HC251 := Aside0.mk (show y248.length ≤ c8 from by rw [hy8, hc8]; exact Nat.sub_le_sub_right (Nat.le_trans (by omega) hroom8) _)
       clear hr8 hC8 hroom8 hi08 hsz8 hc8
       have KY8 := Aside0.mk hy8
       have KA8 := Aside0.mk hA8
       clear hy8 hA8
       replace q8 := eq_true q8
       go_enter Try.func77, Try.ntmps77
       go_wp2
       go_loopg [6, 29] k (fun kq v6 v29 w' => ∃ (x6_1 : Int) (x29_1 : Int), v6 = .int .i64 x6_1 ∧ v29 = .int .i64 x29_1 ∧ Aside0 (pack_TakeNumber.l0 kq (wrap64 (rd l0 0)) x6_1 y248 (y248.length : Int) x29_1 = some (r1, r2, r3)) ∧ Aside0 (kq ≤ k) ∧ Drawn0 w w')
       case atStart => exact ⟨(0), (0), kz4_11, kz4_11, H', ⟨Nat.le_refl _⟩, by repeat (first | exact Drawn0.refl _ | apply Drawn0.step)⟩
       case round =>
        clear H'
        try clear c1
        try clear c2
        try clear c2b0
        try clear c2b1
        try clear c2b2
        try clear p2
        try clear q2
        try clear hx2
        try clear qi2
        try clear c3
        try clear c3b0
        try clear c3b1
        try clear c4
        try clear c4b0
        try clear c5
        try clear c5b0
        try clear c6
        try clear c6b0
        try clear c6b1
        try clear p6
        try clear c7
        try clear c7b0
        try clear c7b1
        try clear c8
        try clear q8
        try clear hx247_0
        try clear p247
        try clear q247
        try clear q8
        obtain ⟨x6_1, x29_1, rfl, rfl, HA, HK1, ⟨m1, rfl⟩⟩ := hrel
        cases gk with
        | zero => exact absurd HA.out (by simp [pack_TakeNumber.l0])
        | succ k1 =>
         have H := HA.out
         clear HA
         simp only [pack_TakeNumber.l0] at H
         by_cases c9 : x29_1 < (y248.length : Int)
         ·rw [if_pos c9] at H
          have c9b0 : decide (x29_1 < (y248.length : Int)) = true := decide_eq_true c9
          clear c9
          by_cases c10 : 0 ≤ x29_1
          ·rw [if_pos c10] at H
           have c10b0 : decide (0 ≤ x29_1) = true := decide_eq_true c10
           clear c10
           by_cases c11 : x29_1 < (y248.length : Int)
           ·rw [if_pos c11] at H
            have c11b0 : decide (x29_1 < (y248.length : Int)) = true := decide_eq_true c11
            clear c11
            by_cases c12 : x29_1 = 0
            ·rw [if_pos c12] at H
             have c12b0 : (x29_1 == 0) = true := beq_iff_eq.mpr c12
             have c12b1 : (x29_1 != 0) = false := bne_eq_false_iff_eq.mpr c12
             clear c12
             have H' := Aside0.mk H
             clear H
             have p252 : 0 ≤ (x29_1 : Int) := of_decide_eq_true kz4_4
             have q252 : x29_1 < (y248.length : Int) := of_decide_eq_true kz4_4
             obtain ⟨ad252, e252, hx252_0⟩ := Kd.at_int HR251.out x29_1 p252 q252
             cases e252
             replace p252 := eq_true p252
             replace q252 := eq_true q252
             go_wp2
             go_roundg k1
             case measure => have := HK1.out; omega
             case rel => exact ⟨(wrap64 (IntKind.i8.wrap (rd y248 x29_1))), (wrap64 (x29_1 + 1)), kz4_11, kz4_11, H', ⟨by have := HK1.out; omega⟩, by repeat (first | exact Drawn0.refl _ | apply Drawn0.step)⟩
            ·rw [if_neg c12] at H
             have c12b0 : (x29_1 == 0) = false := beq_eq_false_iff_ne.mpr c12
             have c12b1 : (x29_1 != 0) = true := bne_iff_ne.mpr c12
             have H' := Aside0.mk H
             clear H
             have p252 : 0 ≤ (x29_1 : Int) := of_decide_eq_true kz4_4
             have q252 : x29_1 < (y248.length : Int) := of_decide_eq_true kz4_4
             obtain ⟨ad252, e252, hx252_0⟩ := Kd.at_int HR251.out x29_1 p252 q252
             cases e252
             replace p252 := eq_true p252
             replace q252 := eq_true q252
             go_wp2
             go_roundg k1
             case measure => have := HK1.out; omega
             case rel => exact ⟨(Go.bits .or .i64 (wrap64 (x6_1 * 256)) (wrap64 (rd y248 x29_1))), (wrap64 (x29_1 + 1)), kz4_11, kz4_11, H', ⟨by have := HK1.out; omega⟩, by repeat (first | exact Drawn0.refl _ | apply Drawn0.step)⟩
           ·rw [if_neg c11] at H
            exact absurd H (by simp)
          ·rw [if_neg c10] at H
           exact absurd H (by simp)
         ·rw [if_neg c9] at H
          have c9b0 : decide (x29_1 < (y248.length : Int)) = false := decide_eq_false c9
          clear c9
          replace H := Option.bind_eq_some_iff.mp H
          obtain ⟨t253, A130, H⟩ := H
          replace H : (if t253 = (wrap64 (rd l0 0)) then (some (x6_1, wrap64 (1 + (wrap64 (rd l0 0))), 0)) else (some (0, 0, 2))) = some (r1, r2, r3) := H
          have A13 := Aside0.mk A130
          clear A130
          by_cases c14 : t253 = (wrap64 (rd l0 0))
          ·rw [if_pos c14] at H
           have c14b0 : (t253 == (wrap64 (rd l0 0))) = true := beq_iff_eq.mpr c14
           have c14b1 : (t253 != (wrap64 (rd l0 0))) = false := bne_eq_false_iff_eq.mpr c14
           clear c14
           simp only [Option.some.injEq, Prod.mk.injEq] at H
           obtain ⟨rfl, rfl, rfl⟩ := H
           go_wp2_with (first | ((with_reducible refine gate_callee (f := 82) rfl ?_); refine goesL_ (some 46) rfl rfl Try.func82 (by kernel_rfl) rfl #[.int .i64 x6_1] rfl kz4_3 ?_; (with_reducible refine (pack_width.calls k1 x6_1 t253 _ A13.out).mono ?_); rintro e w' ⟨rfl, ⟨nd, rfl⟩⟩; refine ⟨_, rfl, ?_⟩))
           go_ret3
           exact ⟨by first | rfl | (simp; done) | (simp [*]; done), by repeat (first | exact Drawn0.refl _ | apply Drawn0.step)⟩
          ·rw [if_neg c14] at H
           have c14b0 : (t253 == (wrap64 (rd l0 0))) = false := beq_eq_false_iff_ne.mpr c14
           have c14b1 : (t253 != (wrap64 (rd l0 0))) = true := bne_iff_ne.mpr c14
           simp only [Option.some.injEq, Prod.mk.injEq] at H
           obtain ⟨rfl, rfl, rfl⟩ := H
           go_wp2_with (first | ((with_reducible refine gate_callee (f := 82) rfl ?_); refine goesL_ (some 46) rfl rfl Try.func82 (by kernel_rfl) rfl #[.int .i64 x6_1] rfl kz4_3 ?_; (with_reducible refine (pack_width.calls k1 x6_1 t253 _ A13.out).mono ?_); rintro e w' ⟨rfl, ⟨nd, rfl⟩⟩; refine ⟨_, rfl, ?_⟩))
           go_ret3
           exact ⟨by first | rfl | (simp; done) | (simp [*]; done), by repeat (first | exact Drawn0.refl _ | apply Drawn0.step)⟩
      ·rw [if_neg c7] at H
       exact absurd H (by simp)
     ·rw [if_neg c6] at H
      exact absurd H (by simp)
  ·rw [if_neg c3] at H
   exact absurd H (by simp)

/-! ### pack_TakeText: function 78 -/
def pack_TakeText.f (k : Nat) (l0 : List Int) : Option (ByteArray × Int × Int) := (pack_TakeNumber.f k l0).bind fun bt254 => (if bt254.2.2 = 0 then (if bt254.1 < 0 then (some ((⟨#[]⟩ : ByteArray), 0, 2)) else (if bt254.1 > (wrap64 ((l0.length : Int) - bt254.2.1)) then (some ((⟨#[]⟩ : ByteArray), 0, 5)) else (if 0 ≤ bt254.2.1 then (if bt254.2.1 ≤ (wrap64 (bt254.2.1 + bt254.1)) then (if (wrap64 (bt254.2.1 + bt254.1)) ≤ (l0.length : Int) then (some (strOfNums ((l0.take ((wrap64 (bt254.2.1 + bt254.1)) : Int).toNat).drop (bt254.2.1 : Int).toNat), wrap64 (bt254.2.1 + bt254.1), 0)) else (none)) else (none)) else (none)))) else (some ((⟨#[]⟩ : ByteArray), 0, bt254.2.2)))
theorem pack_TakeText.mono : ∀ a0 k, LeO (pack_TakeText.f k a0) (pack_TakeText.f (k + 1) a0) := by
 intro a0 k
 unfold pack_TakeText.f
 repeat' first
   | (with_reducible exact pack_TakeNumber.mono _ _)
   | (with_reducible exact LeO.refl _)
   | (with_reducible exact LeO.none _)
   | (with_reducible refine LeO.ite ?_ ?_)
   | (with_reducible refine LeO.bind ?_ (fun _ => ?_))
   | exact pack_TakeNumber.mono _ _
   | exact LeO.none _
   | refine LeO.ite ?_ ?_
   | refine LeO.bind ?_ (fun _ => ?_)
set_option maxHeartbeats 8000000 in
set_option maxRecDepth 100000 in
theorem pack_TakeText.calls (k : Nat) (A0 : Option Addr) (c0 : Nat) (l0 : List Int) (r1 : ByteArray) (r2 : Int) (r3 : Int) (w : World) (hr0 : Kd.C (Kd.int .u8) w A0 l0.length l0) (hc0 : l0.length ≤ c0) (h : pack_TakeText.f k l0 = some (r1, r2, r3)) :
  Calls Try.prog 78 #[.slice A0 l0.length c0] w fun e w' => e = .returned (.tuple #[.string r1, .int .i64 r2, .int .i64 r3]) ∧ Drawn0 w w' := by
 have HR0 := Aside0.mk hr0
 have HC0 := Aside0.mk hc0
 clear hr0 hc0
 have H : ((pack_TakeNumber.f k l0).bind fun bt254 => (if bt254.2.2 = 0 then (if bt254.1 < 0 then (some ((⟨#[]⟩ : ByteArray), 0, 2)) else (if bt254.1 > (wrap64 ((l0.length : Int) - bt254.2.1)) then (some ((⟨#[]⟩ : ByteArray), 0, 5)) else (if 0 ≤ bt254.2.1 then (if bt254.2.1 ≤ (wrap64 (bt254.2.1 + bt254.1)) then (if (wrap64 (bt254.2.1 + bt254.1)) ≤ (l0.length : Int) then (some (strOfNums ((l0.take ((wrap64 (bt254.2.1 + bt254.1)) : Int).toNat).drop (bt254.2.1 : Int).toNat), wrap64 (bt254.2.1 + bt254.1), 0)) else (none)) else (none)) else (none)))) else (some ((⟨#[]⟩ : ByteArray), 0, bt254.2.2)))) = some (r1, r2, r3) := h
 clear h
 replace H := Option.bind_eq_some_iff.mp H
 obtain ⟨⟨t254, t255, t256⟩, A20, H⟩ := H
 replace H : (if t256 = 0 then (if t254 < 0 then (some ((⟨#[]⟩ : ByteArray), 0, 2)) else (if t254 > (wrap64 ((l0.length : Int) - t255)) then (some ((⟨#[]⟩ : ByteArray), 0, 5)) else (if 0 ≤ t255 then (if t255 ≤ (wrap64 (t255 + t254)) then (if (wrap64 (t255 + t254)) ≤ (l0.length : Int) then (some (strOfNums ((l0.take ((wrap64 (t255 + t254)) : Int).toNat).drop (t255 : Int).toNat), wrap64 (t255 + t254), 0)) else (none)) else (none)) else (none)))) else (some ((⟨#[]⟩ : ByteArray), 0, t256))) = some (r1, r2, r3) := H
 have A2 := Aside0.mk A20
 clear A20
 by_cases c3 : t256 = 0
 ·rw [if_pos c3] at H
  have c3b0 : (t256 == 0) = true := beq_iff_eq.mpr c3
  have c3b1 : (t256 != 0) = false := bne_eq_false_iff_eq.mpr c3
  clear c3
  by_cases c4 : t254 < 0
  ·rw [if_pos c4] at H
   have c4b0 : decide (t254 < 0) = true := decide_eq_true c4
   clear c4
   simp only [Option.some.injEq, Prod.mk.injEq] at H
   obtain ⟨rfl, rfl, rfl⟩ := H
   go_enter Try.func78, Try.ntmps78
   go_wp2_with (first | ((with_reducible refine gate_callee (f := 77) rfl ?_); refine goesL_ (some 11) rfl rfl Try.func77 (by kernel_rfl) rfl #[.slice A0 l0.length c0] rfl kz4_3 ?_; (with_reducible refine (pack_TakeNumber.calls k _ _ l0 t254 t255 t256 _ ?side1 ?side2 A2.out).mono ?_); (case side1 => repeat (first | exact HR0.out | (with_reducible refine Kd.C_alloc ?_ _) | (with_reducible refine Kd.C_drewN ?_ _) | (with_reducible refine Kd.C_drew ?_))); (case side2 => exact HC0.out); rintro e w' ⟨rfl, ⟨nd, rfl⟩⟩; refine ⟨_, rfl, ?_⟩))
   go_ret3
   exact ⟨by first | rfl | (simp; done) | (simp [*]; done), by repeat (first | exact Drawn0.refl _ | apply Drawn0.step)⟩
  ·rw [if_neg c4] at H
   have c4b0 : decide (t254 < 0) = false := decide_eq_false c4
   clear c4
   by_cases c5 : t254 > (wrap64 ((l0.length : Int) - t255))
   ·rw [if_pos c5] at H
    have c5b0 : decide ((wrap64 ((l0.length : Int) - t255)) < t254) = true := decide_eq_true c5
    clear c5
    simp only [Option.some.injEq, Prod.mk.injEq] at H
    obtain ⟨rfl, rfl, rfl⟩ := H
    go_enter Try.func78, Try.ntmps78
    go_wp2_with (first | ((with_reducible refine gate_callee (f := 77) rfl ?_); refine goesL_ (some 11) rfl rfl Try.func77 (by kernel_rfl) rfl #[.slice A0 l0.length c0] rfl kz4_3 ?_; (with_reducible refine (pack_TakeNumber.calls k _ _ l0 t254 t255 t256 _ ?side1 ?side2 A2.out).mono ?_); (case side1 => repeat (first | exact HR0.out | (with_reducible refine Kd.C_alloc ?_ _) | (with_reducible refine Kd.C_drewN ?_ _) | (with_reducible refine Kd.C_drew ?_))); (case side2 => exact HC0.out); rintro e w' ⟨rfl, ⟨nd, rfl⟩⟩; refine ⟨_, rfl, ?_⟩))
    go_ret3
    exact ⟨by first | rfl | (simp; done) | (simp [*]; done), by repeat (first | exact Drawn0.refl _ | apply Drawn0.step)⟩
   ·rw [if_neg c5] at H
    have c5b0 : decide ((wrap64 ((l0.length : Int) - t255)) < t254) = false := decide_eq_false c5
    clear c5
    by_cases c6 : 0 ≤ t255
    ·rw [if_pos c6] at H
     have c6b0 := eq_true c6
     have c6b1 : decide (0 ≤ t255) = true := decide_eq_true c6
     clear c6
     by_cases c7 : t255 ≤ (wrap64 (t255 + t254))
     ·rw [if_pos c7] at H
      have c7b0 := eq_true c7
      have c7b1 : decide (t255 ≤ (wrap64 (t255 + t254))) = true := decide_eq_true c7
      by_cases c8 : (wrap64 (t255 + t254)) ≤ (l0.length : Int)
      ·rw [if_pos c8] at H
       have c8b0 := eq_true c8
       have c8b1 : decide ((wrap64 (t255 + t254)) ≤ (l0.length : Int)) = true := decide_eq_true c8
       obtain ⟨y257, hy257⟩ : ∃ y_ : List Int, y_ = ((l0.take ((wrap64 (t255 + t254)) : Int).toNat).drop (t255 : Int).toNat) := ⟨_, rfl⟩
       replace H : (some (strOfNums y257, wrap64 (t255 + t254), 0)) = some (r1, r2, r3) := by first | (rw [hy257]; with_reducible exact H) | (have H2_ := (Option.bind_some _ _).symm.trans H; rw [hy257]; with_reducible exact H2_) | (have H2_ := (Option.bind_some _ _).symm.trans H; with_reducible exact H2_) | with_reducible exact H | (rw [hy257]; exact H) | exact H
       have Ny257 := Aside0.mk hy257
       clear hy257
       simp only [Option.some.injEq, Prod.mk.injEq] at H
       obtain ⟨rfl, rfl, rfl⟩ := H
       go_enter Try.func78, Try.ntmps78
       go_wp2_with (first | ((with_reducible refine gate_callee (f := 77) rfl ?_); refine goesL_ (some 11) rfl rfl Try.func77 (by kernel_rfl) rfl #[.slice A0 l0.length c0] rfl kz4_3 ?_; (with_reducible refine (pack_TakeNumber.calls k _ _ l0 t254 t255 t256 _ ?side1 ?side2 A2.out).mono ?_); (case side1 => repeat (first | exact HR0.out | (with_reducible refine Kd.C_alloc ?_ _) | (with_reducible refine Kd.C_drewN ?_ _) | (with_reducible refine Kd.C_drew ?_))); (case side2 => exact HC0.out); rintro e w' ⟨rfl, ⟨nd, rfl⟩⟩; refine ⟨_, rfl, ?_⟩; have q9 : ((wrap64 (t255 + t254)) : Int) ≤ ((l0.length : Int) : Int) := of_decide_eq_true kz4_4; obtain ⟨i09, hi09, _, hsz9, _⟩ := info_parts info5; have hroom9 : l0.length ≤ c0 := HC0.out; have hC9 : Kd.C (Kd.int .u8) _ A0 l0.length l0 := HR0.out; have ql9 : (t255 : Int) ≤ ((wrap64 (t255 + t254)) : Int) := of_decide_eq_true kz4_4; have q09 : (0 : Int) ≤ (t255 : Int) := of_decide_eq_true kz4_4; have hcut9 := cut_mid (P := Try.prog) 50 5 .i64 .i64 Try.underlying50 hi09 1 hsz9 A0 l0.length c0 t255 (wrap64 (t255 + t254)) q09 ql9 q9 hroom9; have hr9 := Kd.C_mid (lo := (t255 : Int).toNat) (hi := ((wrap64 (t255 + t254)) : Int).toNat) (c := c0) hC9 (by omega) (by omega) hroom9; obtain ⟨A9, hA9⟩ : ∃ A1, A1 = (if c0 = (t255 : Int).toNat then A0 else (A0 : Option Addr).map (·.add ((t255 : Int).toNat * 1))) := ⟨_, rfl⟩; obtain ⟨c9, hc9⟩ : ∃ c1, c1 = c0 - (t255 : Int).toNat := ⟨_, rfl⟩; have hy9 : y257.length = ((wrap64 (t255 + t254)) : Int).toNat - (t255 : Int).toNat := (by rw [Ny257.out, List.length_drop, List.length_take] <;> omega); rw [show ((l0).take ((wrap64 (t255 + t254)) : Int).toNat).drop (t255 : Int).toNat = y257 from Ny257.out.symm] at hr9; replace hr9 : Kd.C (Kd.int .u8) _ A9 y257.length y257 := (by rw [hA9]; exact hr9); rw [← hy9, ← hA9, ← hc9] at hcut9; have HR260 := Aside0.mk hr9; have HC260 := Aside0.mk (show y257.length ≤ c9 from by rw [hy9, hc9]; exact Nat.sub_le_sub_right (Nat.le_trans (by omega) hroom9) _); clear hr9 hC9 hroom9 hi09 hsz9 hc9; have KY9 := Aside0.mk hy9; have KA9 := Aside0.mk hA9; clear hy9 hA9; replace q9 := eq_true q9; have hcv10 := Kd.C_string (P := Try.prog) (A := A9) (c := c9) Try.underlying50 Try.underlying5 Try.underlying9 HR260.out; have hcvd10 := fun m_ => Kd.C_string (P := Try.prog) (A := A9) (c := c9) Try.underlying50 Try.underlying5 Try.underlying9 (Kd.C_drewN (HR260.out) m_)))
       go_ret3
       exact ⟨by first | rfl | (simp; done) | (simp [*]; done), by repeat (first | exact Drawn0.refl _ | apply Drawn0.step)⟩
      ·rw [if_neg c8] at H
       exact absurd H (by simp)
     ·rw [if_neg c7] at H
      exact absurd H (by simp)
    ·rw [if_neg c6] at H
     exact absurd H (by simp)
 ·rw [if_neg c3] at H
  have c3b0 : (t256 == 0) = false := beq_eq_false_iff_ne.mpr c3
  have c3b1 : (t256 != 0) = true := bne_iff_ne.mpr c3
  simp only [Option.some.injEq, Prod.mk.injEq] at H
  obtain ⟨rfl, rfl, rfl⟩ := H
  go_enter Try.func78, Try.ntmps78
  go_wp2_with (first | ((with_reducible refine gate_callee (f := 77) rfl ?_); refine goesL_ (some 11) rfl rfl Try.func77 (by kernel_rfl) rfl #[.slice A0 l0.length c0] rfl kz4_3 ?_; (with_reducible refine (pack_TakeNumber.calls k _ _ l0 t254 t255 t256 _ ?side1 ?side2 A2.out).mono ?_); (case side1 => repeat (first | exact HR0.out | (with_reducible refine Kd.C_alloc ?_ _) | (with_reducible refine Kd.C_drewN ?_ _) | (with_reducible refine Kd.C_drew ?_))); (case side2 => exact HC0.out); rintro e w' ⟨rfl, ⟨nd, rfl⟩⟩; refine ⟨_, rfl, ?_⟩))
  go_ret3
  exact ⟨by first | rfl | (simp; done) | (simp [*]; done), by repeat (first | exact Drawn0.refl _ | apply Drawn0.step)⟩

/-! ### pack_Read: function 60 -/
mutual
def pack_Read.j0 : Nat → List Int → Int → Int → Bool → Option ((List (S112)) × Int)
 | 0, _, _, _, _ => none
 | k + 1, x0, x4, x5, x24 => if x24 = true then (some (([] : List (S112)), 2)) else (if 0 ≤ x4 then (if (x4 : Int).toNat ≤ 4398046511104 then (if 0 ≤ x5 then (if x5 ≤ (x0.length : Int) then (pack_Read.l0 k (x0.drop (x5 : Int).toNat) x4 (([] : List (S112)))) else (none)) else (none)) else (none)) else (none))
def pack_Read.l0 : Nat → List Int → Int → List (S112) → Option ((List (S112)) × Int)
 | 0, _, _, _ => none
 | k + 1, x0, x4, x7 => if (x0.length : Int) > 0 then (if 0 < (x0.length : Int) then (if (rd x0 0) = 1 then (if 1 ≤ (x0.length : Int) then ((pack_TakeNumber.f k (x0.drop 1)).bind fun bt279 => (if bt279.2.2 = 0 then (if (x7.length : Int) = x4 then (some (([] : List (S112)), 2)) else (if x7.length < 4398046511104 then (if 0 ≤ (wrap64 (1 + bt279.2.1)) then (if (wrap64 (1 + bt279.2.1)) ≤ (x0.length : Int) then (pack_Read.l0 k (x0.drop ((wrap64 (1 + bt279.2.1)) : Int).toNat) x4 (x7 ++ [(⟨false, bt279.1, (⟨#[]⟩ : ByteArray)⟩ : S112)])) else (none)) else (none)) else (none))) else (some (([] : List (S112)), 2)))) else (none)) else (if (rd x0 0) = 2 then (if 1 ≤ (x0.length : Int) then ((pack_TakeText.f k (x0.drop 1)).bind fun bt295 => (if bt295.2.2 = 0 then (if (x7.length : Int) = x4 then (some (([] : List (S112)), 2)) else (if x7.length < 4398046511104 then (if 0 ≤ (wrap64 (1 + bt295.2.1)) then (if (wrap64 (1 + bt295.2.1)) ≤ (x0.length : Int) then (pack_Read.l0 k (x0.drop ((wrap64 (1 + bt295.2.1)) : Int).toNat) x4 (x7 ++ [(⟨true, 0, bt295.1⟩ : S112)])) else (none)) else (none)) else (none))) else (some (([] : List (S112)), 2)))) else (none)) else (some (([] : List (S112)), 2)))) else (none)) else (if (x7.length : Int) = x4 then (some (x7, 0)) else (some (([] : List (S112)), 2)))
end
def pack_Read.f (k : Nat) (l0 : List Int) : Option ((List (S112)) × Int) := (pack_TakeNumber.f k l0).bind fun bt261 => (if bt261.2.2 = 0 then (if bt261.1 < 0 then (pack_Read.j0 k l0 bt261.1 bt261.2.1 true) else (pack_Read.j0 k l0 bt261.1 bt261.2.1 (decide (bt261.1 > 4000)))) else (pack_Read.j0 k l0 bt261.1 bt261.2.1 true))
theorem pack_Read.mono_l : ∀ k, (∀ y0 y1 y2 y3, LeO (pack_Read.j0 k y0 y1 y2 y3) (pack_Read.j0 (k + 1) y0 y1 y2 y3)) ∧ (∀ y0 y1 y2, LeO (pack_Read.l0 k y0 y1 y2) (pack_Read.l0 (k + 1) y0 y1 y2))
 | 0 => ⟨fun _ _ _ _ r h => by simp [pack_Read.j0] at h, fun _ _ _ r h => by simp [pack_Read.l0] at h⟩
 | k + 1 => by
  obtain ⟨ih0, ih1⟩ := pack_Read.mono_l k
  refine ⟨?_, ?_⟩
  ·intro y0 y1 y2 y3
   unfold pack_Read.j0
   repeat' first
   | (with_reducible exact ih0 _ _ _ _)
   | (with_reducible exact ih1 _ _ _)
   | (with_reducible exact pack_TakeNumber.mono _ _)
   | (with_reducible exact pack_TakeText.mono _ _)
   | (with_reducible exact LeO.refl _)
   | (with_reducible exact LeO.none _)
   | (with_reducible refine LeO.ite ?_ ?_)
   | (with_reducible refine LeO.bind ?_ (fun _ => ?_))
   | exact ih0 _ _ _ _
   | exact ih1 _ _ _
   | exact pack_TakeNumber.mono _ _
   | exact pack_TakeText.mono _ _
   | exact LeO.none _
   | refine LeO.ite ?_ ?_
   | refine LeO.bind ?_ (fun _ => ?_)
  ·intro y0 y1 y2
   unfold pack_Read.l0
   repeat' first
   | (with_reducible exact ih0 _ _ _ _)
   | (with_reducible exact ih1 _ _ _)
   | (with_reducible exact pack_TakeNumber.mono _ _)
   | (with_reducible exact pack_TakeText.mono _ _)
   | (with_reducible exact LeO.refl _)
   | (with_reducible exact LeO.none _)
   | (with_reducible refine LeO.ite ?_ ?_)
   | (with_reducible refine LeO.bind ?_ (fun _ => ?_))
   | exact ih0 _ _ _ _
   | exact ih1 _ _ _
   | exact pack_TakeNumber.mono _ _
   | exact pack_TakeText.mono _ _
   | exact LeO.none _
   | refine LeO.ite ?_ ?_
   | refine LeO.bind ?_ (fun _ => ?_)
theorem pack_Read.mono : ∀ a0 k, LeO (pack_Read.f k a0) (pack_Read.f (k + 1) a0) := by
 intro a0 k
 obtain ⟨ih0, ih1⟩ := pack_Read.mono_l k
 unfold pack_Read.f
 repeat' first
   | (with_reducible exact ih0 _ _ _ _)
   | (with_reducible exact ih1 _ _ _)
   | (with_reducible exact pack_TakeNumber.mono _ _)
   | (with_reducible exact pack_TakeText.mono _ _)
   | (with_reducible exact LeO.refl _)
   | (with_reducible exact LeO.none _)
   | (with_reducible refine LeO.ite ?_ ?_)
   | (with_reducible refine LeO.bind ?_ (fun _ => ?_))
   | exact ih0 _ _ _ _
   | exact ih1 _ _ _
   | exact pack_TakeNumber.mono _ _
   | exact pack_TakeText.mono _ _
   | exact LeO.none _
   | refine LeO.ite ?_ ?_
   | refine LeO.bind ?_ (fun _ => ?_)
set_option maxHeartbeats 8000000 in
set_option maxRecDepth 100000 in
theorem pack_Read.calls (k : Nat) (P0_ : Nat → Prop) (A0 : Option Addr) (c0 : Nat) (l0 : List Int) (r1 : List (S112)) (r2 : Int) (w : World) (hs0 : Kd.V (Kd.int .u8) 5 w w.heap.size (fun k_ => P0_ k_) (.slice A0 l0.length c0) l0) (h : pack_Read.f k l0 = some (r1, r2)) :
  Calls Try.prog 60 #[.slice A0 l0.length c0] w fun e w' => ∃ v0_ : Value, e = .returned (.tuple #[v0_, .int .i64 r2]) ∧ Kd.R k112 112 w' w.heap.size (fun k_ => (w.heap.size ≤ k_)) v0_ r1 ∧ Below w.heap.size w w' := by
 have hu112 := Try.underlying112
 have HO0 := Aside0.mk (show Kd.V (Kd.int .u8) 5 w w.heap.size (fun k_ => (P0_ k_ ∨ w.heap.size ≤ k_)) (.slice A0 l0.length c0) l0 from Kd.V_mono hs0 (fun k_ hk => .inl hk))
 have HB := Aside0.mk (Below.refl w.heap.size w)
 have H : ((pack_TakeNumber.f k l0).bind fun bt261 => (if bt261.2.2 = 0 then (if bt261.1 < 0 then (pack_Read.j0 k l0 bt261.1 bt261.2.1 true) else (pack_Read.j0 k l0 bt261.1 bt261.2.1 (decide (bt261.1 > 4000)))) else (pack_Read.j0 k l0 bt261.1 bt261.2.1 true))) = some (r1, r2) := h
 clear h
 replace H := Option.bind_eq_some_iff.mp H
 obtain ⟨⟨t261, t262, t263⟩, A20, H⟩ := H
 replace H : (if t263 = 0 then (if t261 < 0 then (pack_Read.j0 k l0 t261 t262 true) else (pack_Read.j0 k l0 t261 t262 (decide (t261 > 4000)))) else (pack_Read.j0 k l0 t261 t262 true)) = some (r1, r2) := H
 have A2 := Aside0.mk A20
 clear A20
 have HC3 := Aside0.mk H
 clear H
 go_enter Try.func60, Try.ntmps60
 go_upto_region 2 with (first | ((with_reducible refine gate_callee (f := 77) rfl ?_); refine goesL_ (some 11) rfl rfl Try.func77 (by kernel_rfl) rfl #[.slice A0 l0.length c0] rfl kz4_3 ?_; (with_reducible refine (pack_TakeNumber.calls k _ _ l0 t261 t262 t263 _ ?side1 ?side2 A2.out).mono ?_); (case side1 => repeat (first | exact (Kd.V_reads' HO0.out).2.2 | (with_reducible refine Kd.C_alloc ?_ _) | (with_reducible refine Kd.C_drewN ?_ _) | (with_reducible refine Kd.C_drew ?_))); (case side2 => exact (Kd.V_reads' HO0.out).2.1); rintro e w' ⟨rfl, ⟨nd, rfl⟩⟩; refine ⟨_, rfl, ?_⟩))
 (try simp only [Act.put, sA_, sB_, sC_])
 go_cut [24] (fun v24 wc => ∃ (kq : Nat) (x24_2 : Bool), v24 = .bool x24_2 ∧ Aside0 (pack_Read.j0 kq l0 t261 t262 x24_2 = some (r1, r2)) ∧ Aside0 (kq ≤ k) ∧ Aside0 (Kd.V (Kd.int .u8) 5 wc w.heap.size (fun k_ => (P0_ k_ ∨ w.heap.size ≤ k_)) (.slice A0 l0.length c0) l0) ∧ Aside0 (Below w.heap.size w wc))
 case first =>
  have H := HC3.out
  clear HC3
  by_cases c4 : t263 = 0
  ·rw [if_pos c4] at H
   have c4b0 : (t263 == 0) = true := beq_iff_eq.mpr c4
   have c4b1 : (t263 != 0) = false := bne_eq_false_iff_eq.mpr c4
   clear c4
   (first | rw [c4b0] | (simp only [i64_w, i32_w]; rw [c4b0]) | skip)
   by_cases c5 : t261 < 0
   ·rw [if_pos c5] at H
    have c5b0 : decide (t261 < 0) = true := decide_eq_true c5
    clear c5
    have H' := Aside0.mk H
    clear H
    go_wp2
    go_meet
    case rel => exact ⟨_, (true), kz4_11, H', ⟨by first | omega | exact Nat.le_refl _⟩, ⟨by (with_reducible repeat (first | apply Kd.V_alloc | apply Kd.V_drewN | apply Kd.V_drew)); exact HO0.out⟩, ⟨by repeat (first | (with_reducible first | exact HB.out | apply below_alloc | apply pw_below_drewN | apply below_drew1) | exact HB.out)⟩⟩
   ·rw [if_neg c5] at H
    have c5b0 : decide (t261 < 0) = false := decide_eq_false c5
    clear c5
    have H' := Aside0.mk H
    clear H
    go_wp2
    go_meet
    case rel => exact ⟨_, (decide (t261 > 4000)), kz4_11, H', ⟨by first | omega | exact Nat.le_refl _⟩, ⟨by (with_reducible repeat (first | apply Kd.V_alloc | apply Kd.V_drewN | apply Kd.V_drew)); exact HO0.out⟩, ⟨by repeat (first | (with_reducible first | exact HB.out | apply below_alloc | apply pw_below_drewN | apply below_drew1) | exact HB.out)⟩⟩
  ·rw [if_neg c4] at H
   have c4b0 : (t263 == 0) = false := beq_eq_false_iff_ne.mpr c4
   have c4b1 : (t263 != 0) = true := bne_iff_ne.mpr c4
   (first | rw [c4b0] | (simp only [i64_w, i32_w]; rw [c4b0]) | skip)
   have H' := Aside0.mk H
   clear H
   go_wp2
   go_meet
   case rel => exact ⟨_, (true), kz4_11, H', ⟨by first | omega | exact Nat.le_refl _⟩, ⟨by (with_reducible repeat (first | apply Kd.V_alloc | apply Kd.V_drewN | apply Kd.V_drew)); exact HO0.out⟩, ⟨by repeat (first | (with_reducible first | exact HB.out | apply below_alloc | apply pw_below_drewN | apply below_drew1) | exact HB.out)⟩⟩
 case rest =>
  clear HC3
  try clear p2
  try clear c4
  try clear c4b0
  try clear c4b1
  try clear c5
  try clear c5b0
  obtain ⟨kq, x24_2, rfl, HA, HJ2, HO_0, HB⟩ := hcut
  cases kq with
  | zero => exact absurd HA.out (by simp [pack_Read.j0])
  | succ kj2 =>
   have H := HA.out
   clear HA
   simp only [pack_Read.j0] at H
   by_cases c6 : x24_2 = true
   ·subst c6
    have H1 : (some (([] : List (S112)), 2)) = some (r1, r2) := by rw [if_pos rfl] at H; exact H
    clear H
    have H := H1
    clear H1
    simp only [Option.some.injEq, Prod.mk.injEq] at H
    obtain ⟨rfl, rfl⟩ := H
    go_wp2
    go_ret2
    exact ⟨_, by first | rfl | (simp [errW_none, errW_some] <;> rfl) | (simp [*, errW_none, errW_some] <;> rfl), by first | exact Kd.R_nil _ _ _ _ _ | exact Kd.N_nil _ _ _ _ _ | exact Kd.V_nil _ _ _ _ _ | exact Kd.Q_nil _ _ _ _ _ | exact Kd.S_nil _ _ _ _ _, by repeat (first | (with_reducible first | exact HB.out | apply below_alloc | apply pw_below_drewN | apply below_drew1) | exact HB.out)⟩
   ·replace c6 := Bool.eq_false_iff.mpr c6
    subst c6
    have H1 : (if 0 ≤ t261 then (if (t261 : Int).toNat ≤ 4398046511104 then (if 0 ≤ t262 then (if t262 ≤ (l0.length : Int) then (pack_Read.l0 kj2 (l0.drop (t262 : Int).toNat) t261 (([] : List (S112)))) else (none)) else (none)) else (none)) else (none)) = some (r1, r2) := by rw [if_neg (show ¬ (false = true) by decide)] at H; exact H
    clear H
    have H := H1
    clear H1
    by_cases c7 : 0 ≤ t261
    ·rw [if_pos c7] at H
     have c7b0 := eq_true c7
     have c7b1 : decide (0 ≤ t261) = true := decide_eq_true c7
     clear c7
     by_cases c8 : (t261 : Int).toNat ≤ 4398046511104
     ·rw [if_pos c8] at H
      have c8b0 := eq_true c8
      have c8b1 : decide ((t261 : Int).toNat ≤ 4398046511104) = true := decide_eq_true c8
      clear c8
      obtain ⟨y264, hy264⟩ : ∃ y_ : List (S112), y_ = (([] : List (S112))) := ⟨_, rfl⟩
      replace H : (if 0 ≤ t262 then (if t262 ≤ (l0.length : Int) then (pack_Read.l0 kj2 (l0.drop (t262 : Int).toNat) t261 y264) else (none)) else (none)) = some (r1, r2) := by first | (rw [hy264]; with_reducible exact H) | (have H2_ := (Option.bind_some _ _).symm.trans H; rw [hy264]; with_reducible exact H2_) | (have H2_ := (Option.bind_some _ _).symm.trans H; with_reducible exact H2_) | with_reducible exact H | (rw [hy264]; exact H) | exact H
      have Ny264 := Aside0.mk hy264
      clear hy264
      by_cases c9 : 0 ≤ t262
      ·rw [if_pos c9] at H
       have c9b0 := eq_true c9
       have c9b1 : decide (0 ≤ t262) = true := decide_eq_true c9
       clear c9
       by_cases c10 : t262 ≤ (l0.length : Int)
       ·rw [if_pos c10] at H
        have c10b0 := eq_true c10
        have c10b1 : decide (t262 ≤ (l0.length : Int)) = true := decide_eq_true c10
        clear c10
        obtain ⟨y267, hy267⟩ : ∃ y_ : List Int, y_ = (l0.drop (t262 : Int).toNat) := ⟨_, rfl⟩
        replace H : (pack_Read.l0 kj2 y267 t261 y264) = some (r1, r2) := by first | (rw [hy267]; with_reducible exact H) | (have H2_ := (Option.bind_some _ _).symm.trans H; rw [hy267]; with_reducible exact H2_) | (have H2_ := (Option.bind_some _ _).symm.trans H; with_reducible exact H2_) | with_reducible exact H | (rw [hy267]; exact H) | exact H
        have Ny267 := Aside0.mk hy267
        clear hy267
        have H' := Aside0.mk H
        clear H
        go_wp2_with (first | ((with_reducible refine gate_dst (N := 26) rfl ?_); (try (refine gate_guard (by rfl) ?_; dsimp only)); refine Kd.R_make0 k112 _ 112 rfl (N := 26) rfl 114 _ _ rfl t261 rfl rfl Try.underlying114 (.agg #[(.bool false), (.int .i64 0), (.string ⟨#[]⟩)]) 32 info112 (ok := fun _ => True) (okp := fun _ => True) (fun _ hk => hk) trivial (of_decide_eq_true kz4_4) (Nat.le_trans (Nat.mul_le_mul_right _ (of_decide_eq_true kz4_4 : t261.toNat ≤ 4398046511104)) (by omega)) (Below.refl _ _) (Nat.le_refl _) (hn := Int.le_trans (Int.toNat_le.1 (of_decide_eq_true kz4_4 : t261.toNat ≤ 4398046511104)) (by decide)) ?_; intro v265 w11 ho12 hb hg_ hnew_; clear hg_ hnew_; (first | rw [← Ny264.out] at ho12 | (simp only [Int.reduceToNat] at ho12; rw [← Ny264.out] at ho12)); have n0_ := Aside0.mk (Kd.V_elder' kz4_6 (Kd.R_base ho12) hb); have n1_ := Aside0.mk (Kd.R_lower (Kd.R_newM (M := fun k_ => (w.heap.size ≤ k_)) ho12 (below_size kz4_1) (fun k_ h_ => h_)) (below_size kz4_1)); have n2_ := Aside0.mk (below_step kz4_1 hb); clear HO_0; clear HB; have HO_0 := n0_; have HO266 := n1_; have HB := n2_; clear n0_ n1_ n2_; clear hb ho12; have q13 : (t262 : Int) ≤ ((l0.length : Int) : Int) := of_decide_eq_true kz4_4; obtain ⟨i013, hi013, _, hsz13, _⟩ := info_parts info5; have hroom13 : l0.length ≤ c0 := (Kd.V_reads' HO_0.out).2.1; have hC13 : Kd.F (Kd.int .u8) _ _ A0 l0.length l0 := (Kd.V_at (base := w.heap.size) HO_0.out).2.2; have q013 : (0 : Int) ≤ (t262 : Int) := of_decide_eq_true kz4_4; have hcut13 := cut_from (P := Try.prog) 50 5 .i64 Try.underlying50 hi013 1 hsz13 A0 l0.length c0 t262 q013 q13; have hr13 := Kd.F_cut (m := (t262 : Int).toNat) (c := c0) hC13 (by omega) hroom13; obtain ⟨A13, hA13⟩ : ∃ A1, A1 = (if c0 = (t262 : Int).toNat then A0 else (A0 : Option Addr).map (·.add ((t262 : Int).toNat * 1))) := ⟨_, rfl⟩; obtain ⟨c13, hc13⟩ : ∃ c1, c1 = c0 - (t262 : Int).toNat := ⟨_, rfl⟩; have hy13 : y267.length = l0.length - (t262 : Int).toNat := (by rw [Ny267.out, List.length_drop] <;> omega); rw [show (l0).drop (t262 : Int).toNat = y267 from Ny267.out.symm] at hr13; replace hr13 : Kd.F (Kd.int .u8) _ _ A13 y267.length y267 := (by rw [hA13]; exact hr13); rw [← hy13, ← hA13, ← hc13] at hcut13; have HO271 := Aside0.mk (show Kd.V (Kd.int .u8) 5 _ w.heap.size _ (.slice A13 y267.length c13) y267 from Kd.V_mk (by rw [hy13, hc13]; exact Nat.sub_le_sub_right hroom13 _) hr13); have HC271 := Aside0.mk (show y267.length ≤ c13 from by rw [hy13, hc13]; exact Nat.sub_le_sub_right hroom13 _); clear hr13 hC13 hroom13 hi013 hsz13 hc13; have KY13 := Aside0.mk hy13; have KA13 := Aside0.mk hA13; clear hy13 hA13; replace q13 := eq_true q13))
        go_loopg [0, 7] kj2 (fun kq v0 v7 w' => ∃ (x0_2 : List Int) (x7_2 : List (S112)), Aside0 (pack_Read.l0 kq x0_2 t261 x7_2 = some (r1, r2)) ∧ Aside0 (kq ≤ kj2) ∧ Aside0 (Kd.V (Kd.int .u8) 5 w' w.heap.size (fun k_ => (P0_ k_ ∨ w.heap.size ≤ k_) ∧ some k_ ≠ (v7 : Value).ownBlock) v0 x0_2) ∧ Aside0 (Kd.R k112 112 w' w.heap.size (fun k_ => (w.heap.size ≤ k_)) v7 x7_2) ∧ Aside0 (Below w.heap.size w w'))
        case atStart => exact ⟨(y267), (y264), H', ⟨Nat.le_refl _⟩, ⟨by (with_reducible repeat (first | apply Kd.V_alloc | apply Kd.V_drewN | apply Kd.V_drew)); exact HO271.out⟩, ⟨by (with_reducible repeat (first | apply Kd.R_alloc | apply Kd.R_drewN | apply Kd.R_drew)); exact Kd.R_mono HO266.out (fun _ hk => hk.1)⟩, ⟨by repeat (first | (with_reducible first | exact HB.out | apply below_alloc | apply pw_below_drewN | apply below_drew1) | exact HB.out)⟩⟩
        case round =>
         clear H'
         try clear c1
         try clear q1
         try clear p2
         try clear c4
         try clear c4b0
         try clear c4b1
         try clear c5
         try clear c5b0
         try clear c6
         try clear c7
         try clear c7b0
         try clear c7b1
         try clear c8
         try clear c8b0
         try clear c8b1
         try clear c9
         try clear c9b0
         try clear c9b1
         try clear c10
         try clear c10b0
         try clear c10b1
         try clear c13
         try clear q13
         try clear p2
         try clear q013
         try clear q13
         obtain ⟨x0_2, x7_2, HA, HK2, HO_0, HO_7, HB⟩ := hrel
         cases gk with
         | zero => exact absurd HA.out (by simp [pack_Read.l0])
         | succ k2 =>
          have H := HA.out
          clear HA
          simp only [pack_Read.l0] at H
          by_cases c14 : (x0_2.length : Int) > 0
          ·rw [if_pos c14] at H
           have c14b0 : decide (0 < (x0_2.length : Int)) = true := decide_eq_true c14
           have c14b1 : decide (0 < x0_2.length) = true := decide_eq_true (by omega)
           clear c14
           by_cases c15 : 0 < (x0_2.length : Int)
           ·rw [if_pos c15] at H
            have c15b0 : decide (0 < (x0_2.length : Int)) = true := decide_eq_true c15
            have c15b1 : decide (0 < x0_2.length) = true := decide_eq_true (by omega)
            clear c15
            by_cases c16 : (rd x0_2 0) = 1
            ·rw [if_pos c16] at H
             have c16b0 : ((rd x0_2 0) == 1) = true := beq_iff_eq.mpr c16
             have c16b1 : ((rd x0_2 0) != 1) = false := bne_eq_false_iff_eq.mpr c16
             clear c16
             by_cases c17 : 1 ≤ (x0_2.length : Int)
             ·rw [if_pos c17] at H
              have c17b0 := eq_true c17
              have c17b1 : decide (1 ≤ (x0_2.length : Int)) = true := decide_eq_true c17
              clear c17
              obtain ⟨y274, hy274⟩ : ∃ y_ : List Int, y_ = (x0_2.drop 1) := ⟨_, rfl⟩
              replace H : ((pack_TakeNumber.f k2 y274).bind fun bt279 => (if bt279.2.2 = 0 then (if (x7_2.length : Int) = t261 then (some (([] : List (S112)), 2)) else (if x7_2.length < 4398046511104 then (if 0 ≤ (wrap64 (1 + bt279.2.1)) then (if (wrap64 (1 + bt279.2.1)) ≤ (x0_2.length : Int) then (pack_Read.l0 k2 (x0_2.drop ((wrap64 (1 + bt279.2.1)) : Int).toNat) t261 (x7_2 ++ [(⟨false, bt279.1, (⟨#[]⟩ : ByteArray)⟩ : S112)])) else (none)) else (none)) else (none))) else (some (([] : List (S112)), 2)))) = some (r1, r2) := by first | (rw [hy274]; with_reducible exact H) | (have H2_ := (Option.bind_some _ _).symm.trans H; rw [hy274]; with_reducible exact H2_) | (have H2_ := (Option.bind_some _ _).symm.trans H; with_reducible exact H2_) | with_reducible exact H | (rw [hy274]; exact H) | exact H
              have Ny274 := Aside0.mk hy274
              clear hy274
              replace H := Option.bind_eq_some_iff.mp H
              obtain ⟨⟨t279, t280, t281⟩, A180, H⟩ := H
              replace H : (if t281 = 0 then (if (x7_2.length : Int) = t261 then (some (([] : List (S112)), 2)) else (if x7_2.length < 4398046511104 then (if 0 ≤ (wrap64 (1 + t280)) then (if (wrap64 (1 + t280)) ≤ (x0_2.length : Int) then (pack_Read.l0 k2 (x0_2.drop ((wrap64 (1 + t280)) : Int).toNat) t261 (x7_2 ++ [(⟨false, t279, (⟨#[]⟩ : ByteArray)⟩ : S112)])) else (none)) else (none)) else (none))) else (some (([] : List (S112)), 2))) = some (r1, r2) := H
              have A18 := Aside0.mk A180
              clear A180
              by_cases c19 : t281 = 0
              ·rw [if_pos c19] at H
               have c19b0 : (t281 == 0) = true := beq_iff_eq.mpr c19
               have c19b1 : (t281 != 0) = false := bne_eq_false_iff_eq.mpr c19
               clear c19
               by_cases c20 : (x7_2.length : Int) = t261
               ·rw [if_pos c20] at H
                have c20b0 : ((x7_2.length : Int) == t261) = true := beq_iff_eq.mpr c20
                have c20b1 : ((x7_2.length : Int) != t261) = false := bne_eq_false_iff_eq.mpr c20
                clear c20
                simp only [Option.some.injEq, Prod.mk.injEq] at H
                obtain ⟨rfl, rfl⟩ := H
                obtain ⟨Ao21, co21, eo21⟩ := Kd.V_slice HO_0.out
                subst eo21
                go_wp2_with (first | ((with_reducible refine gate_dst (N := 8) rfl ?_); (try (refine gate_guard (by rfl) ?_; dsimp only)); refine box_event ?hg (N := 8) ?hd (cs := #[.bool false, .int .i64 0, .string (⟨#[]⟩ : ByteArray)]) (t := 112) ?hr ?_; (case hd => rfl); (case hg => rfl); (case hr => first | (go_simp; done) | (go_simp; rfl)); intro gb272 hg w22 hbox hb; have n0_ := Aside0.mk (Kd.V_below (Kd.V_elderB kz4_6 gb272 (Nat.le_of_eq hg.symm)) hb); have n1_ := Aside0.mk (Kd.R_below (Kd.R_elderB kz4_5 gb272 (Nat.le_of_eq hg.symm)) hb); have n2_ := Aside0.mk (below_step kz4_1 hb); have n3_ := Aside0.mk (hbox); have n4_ := Aside0.mk ((by rw [hg]; exact (below_size kz4_1) : w.heap.size ≤ gb272)); have n5_ := Aside0.mk ((by rw [hg]; exact (below_size kz4_1) : w.heap.size ≤ gb272)); clear HO_0; clear HO_7; clear HB; have HO_0 := n0_; have HO_7 := n1_; have HB := n2_; have BK272 := n3_; have GW272 := n4_; have GE272 := n5_; clear n0_ n1_ n2_ n3_ n4_ n5_; clear hb hbox hg; have p273 : 0 ≤ (0 : Int) := (by omega); have q273 : 0 < (x0_2.length : Int) := of_decide_eq_true kz4_4; obtain ⟨ad273, e273, hx273_0⟩ := Kd.at_int (Kd.V_reads' HO_0.out).2.2 0 p273 q273; cases e273; have qi273 : (0 < x0_2.length) = True := eq_true (by omega); (try rw [show ((0 : Int)).toNat = 0 from rfl] at hx273_0); (try rw [Addr.add_zero'] at hx273_0); replace p273 := eq_true p273; replace q273 := eq_true q273; have q23 : (1 : Int) ≤ ((x0_2.length : Int) : Int) := of_decide_eq_true kz4_4; obtain ⟨i023, hi023, _, hsz23, _⟩ := info_parts info5; have hroom23 : x0_2.length ≤ co21 := (Kd.V_reads' HO_0.out).2.1; have hC23 : Kd.F (Kd.int .u8) _ _ (some ad273) x0_2.length x0_2 := (Kd.V_at (base := w.heap.size) HO_0.out).2.2; have hcut23 := cut_from (P := Try.prog) 50 5 .i64 Try.underlying50 hi023 1 hsz23 (some ad273) x0_2.length co21 1 (by omega) q23; have hr23 := Kd.F_cut (m := (1 : Int).toNat) (c := co21) hC23 (by omega) hroom23; obtain ⟨A23, hA23⟩ : ∃ A1, A1 = (if co21 = (1 : Int).toNat then (some ad273) else ((some ad273) : Option Addr).map (·.add ((1 : Int).toNat * 1))) := ⟨_, rfl⟩; obtain ⟨c23, hc23⟩ : ∃ c1, c1 = co21 - (1 : Int).toNat := ⟨_, rfl⟩; have hy23 : y274.length = x0_2.length - (1 : Int).toNat := (by rw [Ny274.out, List.length_drop] <;> omega); rw [show (x0_2).drop (1 : Int).toNat = y274 from Ny274.out.symm] at hr23; replace hr23 : Kd.F (Kd.int .u8) _ _ A23 y274.length y274 := (by rw [hA23]; exact hr23); rw [← hy23, ← hA23, ← hc23] at hcut23; have HO278 := Aside0.mk (show Kd.V (Kd.int .u8) 5 _ w.heap.size _ (.slice A23 y274.length c23) y274 from Kd.V_mk (by rw [hy23, hc23]; exact Nat.sub_le_sub_right hroom23 _) hr23); have HC278 := Aside0.mk (show y274.length ≤ c23 from by rw [hy23, hc23]; exact Nat.sub_le_sub_right hroom23 _); clear hr23 hC23 hroom23 hi023 hsz23 hc23; have KY23 := Aside0.mk hy23; have KA23 := Aside0.mk hA23; clear hy23 hA23; replace q23 := eq_true q23) | ((with_reducible refine gate_callee (f := 77) rfl ?_); refine goesL_ (some 45) rfl rfl Try.func77 (by kernel_rfl) rfl #[.slice A23 y274.length c23] rfl kz4_3 ?_; (with_reducible refine (pack_TakeNumber.calls k2 _ _ y274 t279 t280 t281 _ ?side1 ?side2 A18.out).mono ?_); (case side1 => repeat (first | exact (Kd.V_reads' HO278.out).2.2 | (with_reducible refine Kd.C_alloc ?_ _) | (with_reducible refine Kd.C_drewN ?_ _) | (with_reducible refine Kd.C_drew ?_))); (case side2 => exact (Kd.V_reads' HO278.out).2.1); rintro e w' ⟨rfl, ⟨nd, rfl⟩⟩; refine ⟨_, rfl, ?_⟩; (try (rw [drewN_self w22]; generalize hq_ : World.drewN w22 _ = w22; have n0_ : Aside0 (Kd.V (Kd.int .u8) 5 w22 w.heap.size (fun k_ => (P0_ k_ ∨ w.heap.size ≤ k_) ∧ some k_ ≠ (u7 : Value).ownBlock ∧ k_ ≠ gb272) (.slice A23 y274.length c23) y274) := ⟨by rw [← hq_]; exact kz4_12⟩; have n1_ : Aside0 (Kd.V (Kd.int .u8) 5 w22 w.heap.size (fun k_ => (P0_ k_ ∨ w.heap.size ≤ k_) ∧ some k_ ≠ (u7 : Value).ownBlock ∧ k_ ≠ gb272) (.slice (some ad273) x0_2.length co21) x0_2) := ⟨by rw [← hq_]; exact kz4_13⟩; have n2_ : Aside0 (Kd.R k112 112 w22 w.heap.size (fun k_ => (w.heap.size ≤ k_) ∧ k_ ≠ gb272) u7 x7_2) := ⟨by rw [← hq_]; exact kz4_5⟩; have n3_ : Aside0 (w22.heap[gb272]? = some (.cells #[.bool false, .int .i64 0, .string (⟨#[]⟩ : ByteArray)] 112 (0, 0))) := ⟨by rw [← hq_]; exact kz4_10⟩; have n4_ : Aside0 (Below w.heap.size w w22) := ⟨by rw [← hq_]; exact kz4_2⟩; clear HO278 HO_0 HO_7 BK272 HB hq_; have HO278 := n0_; have HO_0 := n1_; have HO_7 := n2_; have BK272 := n3_; have HB := n4_; clear n0_ n1_ n2_ n3_ n4_)); have hcz24_0 : w22.cell? ⟨gb272, 0, none⟩ = some (.bool false) := (blk_cell BK272.out 0).trans rfl; have hcz24_1 : w22.cell? ⟨gb272, 1, none⟩ = some (.int .i64 0) := (blk_cell BK272.out 1).trans rfl; have hcz24_2 : w22.cell? ⟨gb272, 2, none⟩ = some (.string (⟨#[]⟩ : ByteArray)) := (blk_cell BK272.out 2).trans rfl; have hfz24_0 := blk_frozen BK272.out 0; have hfz24_1 := blk_frozen BK272.out 1; have hfz24_2 := blk_frozen BK272.out 2; obtain ⟨Ao25, co25, eo25⟩ := Kd.R_slice HO_7.out; subst eo25))
                go_ret2
                exact ⟨_, by first | rfl | (simp [errW_none, errW_some] <;> rfl) | (simp [*, errW_none, errW_some] <;> rfl), by first | exact Kd.R_nil _ _ _ _ _ | exact Kd.N_nil _ _ _ _ _ | exact Kd.V_nil _ _ _ _ _ | exact Kd.Q_nil _ _ _ _ _ | exact Kd.S_nil _ _ _ _ _, by repeat (first | (with_reducible first | exact HB.out | apply below_alloc | apply pw_below_drewN | apply below_drew1 | refine below_set ?_ GE272.out) | exact HB.out)⟩
               ·rw [if_neg c20] at H
                have c20b0 : ((x7_2.length : Int) == t261) = false := beq_eq_false_iff_ne.mpr c20
                have c20b1 : ((x7_2.length : Int) != t261) = true := bne_iff_ne.mpr c20
                by_cases c26 : x7_2.length < 4398046511104
                ·rw [if_pos c26] at H
                 have LMc26 := Aside0.mk c26
                 clear c26
                 obtain ⟨y282, hy282⟩ : ∃ y_ : List (S112), y_ = (x7_2 ++ [(⟨false, t279, (⟨#[]⟩ : ByteArray)⟩ : S112)]) := ⟨_, rfl⟩
                 replace H : (if 0 ≤ (wrap64 (1 + t280)) then (if (wrap64 (1 + t280)) ≤ (x0_2.length : Int) then (pack_Read.l0 k2 (x0_2.drop ((wrap64 (1 + t280)) : Int).toNat) t261 y282) else (none)) else (none)) = some (r1, r2) := by first | (rw [hy282]; with_reducible exact H) | (have H2_ := (Option.bind_some _ _).symm.trans H; rw [hy282]; with_reducible exact H2_) | (have H2_ := (Option.bind_some _ _).symm.trans H; with_reducible exact H2_) | with_reducible exact H | (rw [hy282]; exact H) | exact H
                 have Ny282 := Aside0.mk hy282
                 clear hy282
                 obtain ⟨ji27, hji27⟩ : ∃ j_ : Int, (wrap64 (1 + t280)) = j_ := ⟨_, rfl⟩
                 replace H : (if 0 ≤ (ji27) then (if (ji27) ≤ (x0_2.length : Int) then (pack_Read.l0 k2 (x0_2.drop ((ji27) : Int).toNat) t261 y282) else (none)) else (none)) = some (r1, r2) := by first | (rw [hji27] at H; exact H) | (simp only [hji27] at H ⊢; exact H)
                 (try rw [hji27] at A18)
                 have hji27w : (IntKind.i64.wrap (1 + t280)) = ji27 := (i64_w _).trans hji27
                 by_cases c28 : 0 ≤ (ji27)
                 ·rw [if_pos c28] at H
                  have c28b0 := eq_true c28
                  have c28b1 : decide (0 ≤ (ji27)) = true := decide_eq_true c28
                  clear c28
                  by_cases c29 : (ji27) ≤ (x0_2.length : Int)
                  ·rw [if_pos c29] at H
                   have c29b0 := eq_true c29
                   have c29b1 : decide ((ji27) ≤ (x0_2.length : Int)) = true := decide_eq_true c29
                   clear c29
                   obtain ⟨y285, hy285⟩ : ∃ y_ : List Int, y_ = (x0_2.drop ((ji27) : Int).toNat) := ⟨_, rfl⟩
                   replace H : (pack_Read.l0 k2 y285 t261 y282) = some (r1, r2) := by first | (rw [hy285]; with_reducible exact H) | (have H2_ := (Option.bind_some _ _).symm.trans H; rw [hy285]; with_reducible exact H2_) | (have H2_ := (Option.bind_some _ _).symm.trans H; with_reducible exact H2_) | with_reducible exact H | (rw [hy285]; exact H) | exact H
                   have Ny285 := Aside0.mk hy285
                   clear hy285
                   have H' := Aside0.mk H
                   clear H
                   obtain ⟨Ao30, co30, eo30⟩ := Kd.V_slice HO_0.out
                   subst eo30
                   go_wp2_with (first | ((with_reducible refine gate_dst (N := 8) rfl ?_); (try (refine gate_guard (by rfl) ?_; dsimp only)); refine box_event ?hg (N := 8) ?hd (cs := #[.bool false, .int .i64 0, .string (⟨#[]⟩ : ByteArray)]) (t := 112) ?hr ?_; (case hd => rfl); (case hg => rfl); (case hr => first | (go_simp; done) | (go_simp; rfl)); intro gb272 hg w31 hbox hb; have n0_ := Aside0.mk (Kd.V_below (Kd.V_elderB kz4_6 gb272 (Nat.le_of_eq hg.symm)) hb); have n1_ := Aside0.mk (Kd.R_below (Kd.R_elderB kz4_5 gb272 (Nat.le_of_eq hg.symm)) hb); have n2_ := Aside0.mk (below_step kz4_1 hb); have n3_ := Aside0.mk (hbox); have n4_ := Aside0.mk ((by rw [hg]; exact (below_size kz4_1) : w.heap.size ≤ gb272)); have n5_ := Aside0.mk ((by rw [hg]; exact (below_size kz4_1) : w.heap.size ≤ gb272)); clear HO_0; clear HO_7; clear HB; have HO_0 := n0_; have HO_7 := n1_; have HB := n2_; have BK272 := n3_; have GW272 := n4_; have GE272 := n5_; clear n0_ n1_ n2_ n3_ n4_ n5_; clear hb hbox hg; have p273 : 0 ≤ (0 : Int) := (by omega); have q273 : 0 < (x0_2.length : Int) := of_decide_eq_true kz4_4; obtain ⟨ad273, e273, hx273_0⟩ := Kd.at_int (Kd.V_reads' HO_0.out).2.2 0 p273 q273; cases e273; have qi273 : (0 < x0_2.length) = True := eq_true (by omega); (try rw [show ((0 : Int)).toNat = 0 from rfl] at hx273_0); (try rw [Addr.add_zero'] at hx273_0); replace p273 := eq_true p273; replace q273 := eq_true q273; have q32 : (1 : Int) ≤ ((x0_2.length : Int) : Int) := of_decide_eq_true kz4_4; obtain ⟨i032, hi032, _, hsz32, _⟩ := info_parts info5; have hroom32 : x0_2.length ≤ co30 := (Kd.V_reads' HO_0.out).2.1; have hC32 : Kd.F (Kd.int .u8) _ _ (some ad273) x0_2.length x0_2 := (Kd.V_at (base := w.heap.size) HO_0.out).2.2; have hcut32 := cut_from (P := Try.prog) 50 5 .i64 Try.underlying50 hi032 1 hsz32 (some ad273) x0_2.length co30 1 (by omega) q32; have hr32 := Kd.F_cut (m := (1 : Int).toNat) (c := co30) hC32 (by omega) hroom32; obtain ⟨A32, hA32⟩ : ∃ A1, A1 = (if co30 = (1 : Int).toNat then (some ad273) else ((some ad273) : Option Addr).map (·.add ((1 : Int).toNat * 1))) := ⟨_, rfl⟩; obtain ⟨c32, hc32⟩ : ∃ c1, c1 = co30 - (1 : Int).toNat := ⟨_, rfl⟩; have hy32 : y274.length = x0_2.length - (1 : Int).toNat := (by rw [Ny274.out, List.length_drop] <;> omega); rw [show (x0_2).drop (1 : Int).toNat = y274 from Ny274.out.symm] at hr32; replace hr32 : Kd.F (Kd.int .u8) _ _ A32 y274.length y274 := (by rw [hA32]; exact hr32); rw [← hy32, ← hA32, ← hc32] at hcut32; have HO278 := Aside0.mk (show Kd.V (Kd.int .u8) 5 _ w.heap.size _ (.slice A32 y274.length c32) y274 from Kd.V_mk (by rw [hy32, hc32]; exact Nat.sub_le_sub_right hroom32 _) hr32); have HC278 := Aside0.mk (show y274.length ≤ c32 from by rw [hy32, hc32]; exact Nat.sub_le_sub_right hroom32 _); clear hr32 hC32 hroom32 hi032 hsz32 hc32; have KY32 := Aside0.mk hy32; have KA32 := Aside0.mk hA32; clear hy32 hA32; replace q32 := eq_true q32) | ((with_reducible refine gate_callee (f := 77) rfl ?_); refine goesL_ (some 45) rfl rfl Try.func77 (by kernel_rfl) rfl #[.slice A32 y274.length c32] rfl kz4_3 ?_; (with_reducible refine (pack_TakeNumber.calls k2 _ _ y274 t279 t280 t281 _ ?side1 ?side2 A18.out).mono ?_); (case side1 => repeat (first | exact (Kd.V_reads' HO278.out).2.2 | (with_reducible refine Kd.C_alloc ?_ _) | (with_reducible refine Kd.C_drewN ?_ _) | (with_reducible refine Kd.C_drew ?_))); (case side2 => exact (Kd.V_reads' HO278.out).2.1); rintro e w' ⟨rfl, ⟨nd, rfl⟩⟩; refine ⟨_, rfl, ?_⟩; (try (rw [drewN_self w31]; generalize hq_ : World.drewN w31 _ = w31; have n0_ : Aside0 (Kd.V (Kd.int .u8) 5 w31 w.heap.size (fun k_ => (P0_ k_ ∨ w.heap.size ≤ k_) ∧ some k_ ≠ (u7 : Value).ownBlock ∧ k_ ≠ gb272) (.slice A32 y274.length c32) y274) := ⟨by rw [← hq_]; exact kz4_12⟩; have n1_ : Aside0 (Kd.V (Kd.int .u8) 5 w31 w.heap.size (fun k_ => (P0_ k_ ∨ w.heap.size ≤ k_) ∧ some k_ ≠ (u7 : Value).ownBlock ∧ k_ ≠ gb272) (.slice (some ad273) x0_2.length co30) x0_2) := ⟨by rw [← hq_]; exact kz4_13⟩; have n2_ : Aside0 (Kd.R k112 112 w31 w.heap.size (fun k_ => (w.heap.size ≤ k_) ∧ k_ ≠ gb272) u7 x7_2) := ⟨by rw [← hq_]; exact kz4_5⟩; have n3_ : Aside0 (w31.heap[gb272]? = some (.cells #[.bool false, .int .i64 0, .string (⟨#[]⟩ : ByteArray)] 112 (0, 0))) := ⟨by rw [← hq_]; exact kz4_10⟩; have n4_ : Aside0 (Below w.heap.size w w31) := ⟨by rw [← hq_]; exact kz4_2⟩; clear HO278 HO_0 HO_7 BK272 HB hq_; have HO278 := n0_; have HO_0 := n1_; have HO_7 := n2_; have BK272 := n3_; have HB := n4_; clear n0_ n1_ n2_ n3_ n4_)); have hcz33_0 : w31.cell? ⟨gb272, 0, none⟩ = some (.bool false) := (blk_cell BK272.out 0).trans rfl; have hcz33_1 : w31.cell? ⟨gb272, 1, none⟩ = some (.int .i64 0) := (blk_cell BK272.out 1).trans rfl; have hcz33_2 : w31.cell? ⟨gb272, 2, none⟩ = some (.string (⟨#[]⟩ : ByteArray)) := (blk_cell BK272.out 2).trans rfl; have hfz33_0 := blk_frozen BK272.out 0; have hfz33_1 := blk_frozen BK272.out 1; have hfz33_2 := blk_frozen BK272.out 2; obtain ⟨Ao34, co34, eo34⟩ := Kd.R_slice HO_7.out; subst eo34) | ((with_reducible refine gate_builtin (b := .append) (xs := #[.tmp 69, .tmp 71]) rfl ?_); (try (refine gate_guard (by rfl) ?_; dsimp only)); at_builtin; refine Kd.R_append k112 (w0 := w) w.heap.size rfl (.tmp 69) (.tmp 71) 114 112 (.agg #[(.bool false), (.int .i64 0), (.string ⟨#[]⟩)]) 32 rfl Try.underlying114 info112 rfl (by decide) (by omega) (.slice Ao34 x7_2.length co34) x7_2 (⟨false, t279, (⟨#[]⟩ : ByteArray)⟩ : S112) [.bool false, .int .i64 t279, .string (⟨#[]⟩ : ByteArray)] (fun k_ => (w.heap.size ≤ k_) ∧ k_ ≠ gb272) (fun _ => False) rfl (by first | (go_simp; done) | (go_simp; rfl)) ?aP (fun _ hk => hk.elim) ?aF ?aO ?aB ?aS ?aL ?_; (case aP => exact k112_mkM _ _ _ (⟨false, t279, (⟨#[]⟩ : ByteArray)⟩ : S112)); (case aB => exact kz4_2); (case aF => exact (fun k_ hk => ⟨(Nat.le_trans (below_size kz4_2) hk), Kd.freshB (g := gb272) (o := .cells #[.bool false, .int .i64 t279, .string (⟨#[]⟩ : ByteArray)] 112 (0, 0)) kz4_14 k_ hk⟩)); (case aO => exact (by (with_reducible repeat (first | apply Kd.R_alloc | apply Kd.R_drewN | apply Kd.R_drew)); exact Kd.R_mono (Kd.R_far (p := ⟨gb272, 1, none⟩) (Kd.R_mono HO_7.out (fun k_ hk => (⟨hk, hk.2⟩ : _ ∧ k_ ≠ gb272))) (fun _ hk => hk.2) (.int .i64 t279)) (fun _ hk => ⟨hk.1.1, hk.1.2⟩))); (case aS => exact (below_size kz4_2)); (case aL => have := LMc26.out; omega); intro v283 w35 ho hb hg hat; rw [← Ny282.out] at ho; have n0_ := Aside0.mk (Kd.V_afterv (ok := (fun k_ => (P0_ k_ ∨ w.heap.size ≤ k_) ∧ k_ ≠ gb272)) (by (with_reducible repeat (first | apply Kd.V_alloc | apply Kd.V_drewN | apply Kd.V_drew)); exact Kd.V_mono (Kd.V_far (p := ⟨gb272, 1, none⟩) (Kd.V_mono HO_0.out (fun k_ hk => (⟨hk, hk.2.2⟩ : _ ∧ k_ ≠ gb272))) (fun _ hk => hk.2) (.int .i64 t279)) (fun _ hk => ⟨⟨hk.1.1, hk.1.2.2⟩, hk.1.2.1⟩)) hg hat); have n1_ := Aside0.mk (blk_grown (g := gb272) (o := .cells #[.bool false, .int .i64 t279, .string (⟨#[]⟩ : ByteArray)] 112 (0, 0)) kz4_14 hg (Kd.R_away HO_7.out (fun _ hk => hk.2))); have n2_ := Aside0.mk (Kd.V_afterv (ok := (fun k_ => (P0_ k_ ∨ w.heap.size ≤ k_) ∧ k_ ≠ gb272)) (by (with_reducible repeat (first | apply Kd.V_alloc | apply Kd.V_drewN | apply Kd.V_drew)); exact Kd.V_mono (Kd.V_far (p := ⟨gb272, 1, none⟩) (Kd.V_mono HO278.out (fun k_ hk => (⟨hk, hk.2.2⟩ : _ ∧ k_ ≠ gb272))) (fun _ hk => hk.2) (.int .i64 t279)) (fun _ hk => ⟨⟨hk.1.1, hk.1.2.2⟩, hk.1.2.1⟩)) hg hat); have n3_ := Aside0.mk (hb); have n4_ := Aside0.mk (ho); clear HO_0; clear BK272; clear HO278; clear HB; clear HO_7; have HO_0 := n0_; have BK272 := n1_; have HO278 := n2_; have HB := n3_; have HO284 := n4_; clear n0_ n1_ n2_ n3_ n4_; clear ho hb hg hat; have q36 : ((ji27) : Int) ≤ ((x0_2.length : Int) : Int) := of_decide_eq_true kz4_4; obtain ⟨i036, hi036, _, hsz36, _⟩ := info_parts info5; have hroom36 : x0_2.length ≤ co30 := (Kd.V_reads' HO_0.out).2.1; have hC36 : Kd.F (Kd.int .u8) _ _ (some ad273) x0_2.length x0_2 := (Kd.V_at (base := w.heap.size) HO_0.out).2.2; have q036 : (0 : Int) ≤ ((ji27) : Int) := of_decide_eq_true kz4_4; have hcut36 := cut_from (P := Try.prog) 50 5 .i64 Try.underlying50 hi036 1 hsz36 (some ad273) x0_2.length co30 (ji27) q036 q36; have hr36 := Kd.F_cut (m := ((ji27) : Int).toNat) (c := co30) hC36 (by omega) hroom36; obtain ⟨A36, hA36⟩ : ∃ A1, A1 = (if co30 = ((ji27) : Int).toNat then (some ad273) else ((some ad273) : Option Addr).map (·.add (((ji27) : Int).toNat * 1))) := ⟨_, rfl⟩; obtain ⟨c36, hc36⟩ : ∃ c1, c1 = co30 - ((ji27) : Int).toNat := ⟨_, rfl⟩; have hy36 : y285.length = x0_2.length - ((ji27) : Int).toNat := (by rw [Ny285.out, List.length_drop] <;> omega); rw [show (x0_2).drop ((ji27) : Int).toNat = y285 from Ny285.out.symm] at hr36; replace hr36 : Kd.F (Kd.int .u8) _ _ A36 y285.length y285 := (by rw [hA36]; exact hr36); rw [← hy36, ← hA36, ← hc36] at hcut36; have HO289 := Aside0.mk (show Kd.V (Kd.int .u8) 5 _ w.heap.size _ (.slice A36 y285.length c36) y285 from Kd.V_mk (by rw [hy36, hc36]; exact Nat.sub_le_sub_right hroom36 _) hr36); have HC289 := Aside0.mk (show y285.length ≤ c36 from by rw [hy36, hc36]; exact Nat.sub_le_sub_right hroom36 _); clear hr36 hC36 hroom36 hi036 hsz36 hc36; have KY36 := Aside0.mk hy36; have KA36 := Aside0.mk hA36; clear hy36 hA36; replace q36 := eq_true q36))
                   go_roundg k2
                   case measure => have := HJ2.out; have := HK2.out; omega
                   case rel => exact ⟨(y285), (y282), H', ⟨by have := HJ2.out; have := HK2.out; omega⟩, ⟨by (with_reducible repeat (first | apply Kd.V_alloc | apply Kd.V_drewN | apply Kd.V_drew)); exact Kd.V_mono HO289.out (fun _ hk => ⟨hk.1.1, hk.2⟩)⟩, ⟨by (with_reducible repeat (first | apply Kd.R_alloc | apply Kd.R_drewN | apply Kd.R_drew)); exact Kd.R_mono HO284.out (fun _ hk => hk.1)⟩, ⟨by repeat (first | (with_reducible first | exact HB.out | apply below_alloc | apply pw_below_drewN | apply below_drew1 | refine below_set ?_ GE272.out) | exact HB.out)⟩⟩
                  ·rw [if_neg c29] at H
                   exact absurd H (by simp)
                 ·rw [if_neg c28] at H
                  exact absurd H (by simp)
                ·rw [if_neg c26] at H
                 exact absurd H (by simp)
              ·rw [if_neg c19] at H
               have c19b0 : (t281 == 0) = false := beq_eq_false_iff_ne.mpr c19
               have c19b1 : (t281 != 0) = true := bne_iff_ne.mpr c19
               simp only [Option.some.injEq, Prod.mk.injEq] at H
               obtain ⟨rfl, rfl⟩ := H
               obtain ⟨Ao37, co37, eo37⟩ := Kd.V_slice HO_0.out
               subst eo37
               go_wp2_with (first | ((with_reducible refine gate_dst (N := 8) rfl ?_); (try (refine gate_guard (by rfl) ?_; dsimp only)); refine box_event ?hg (N := 8) ?hd (cs := #[.bool false, .int .i64 0, .string (⟨#[]⟩ : ByteArray)]) (t := 112) ?hr ?_; (case hd => rfl); (case hg => rfl); (case hr => first | (go_simp; done) | (go_simp; rfl)); intro gb272 hg w38 hbox hb; have n0_ := Aside0.mk (Kd.V_below (Kd.V_elderB kz4_6 gb272 (Nat.le_of_eq hg.symm)) hb); have n1_ := Aside0.mk (Kd.R_below (Kd.R_elderB kz4_5 gb272 (Nat.le_of_eq hg.symm)) hb); have n2_ := Aside0.mk (below_step kz4_1 hb); have n3_ := Aside0.mk (hbox); have n4_ := Aside0.mk ((by rw [hg]; exact (below_size kz4_1) : w.heap.size ≤ gb272)); have n5_ := Aside0.mk ((by rw [hg]; exact (below_size kz4_1) : w.heap.size ≤ gb272)); clear HO_0; clear HO_7; clear HB; have HO_0 := n0_; have HO_7 := n1_; have HB := n2_; have BK272 := n3_; have GW272 := n4_; have GE272 := n5_; clear n0_ n1_ n2_ n3_ n4_ n5_; clear hb hbox hg; have p273 : 0 ≤ (0 : Int) := (by omega); have q273 : 0 < (x0_2.length : Int) := of_decide_eq_true kz4_4; obtain ⟨ad273, e273, hx273_0⟩ := Kd.at_int (Kd.V_reads' HO_0.out).2.2 0 p273 q273; cases e273; have qi273 : (0 < x0_2.length) = True := eq_true (by omega); (try rw [show ((0 : Int)).toNat = 0 from rfl] at hx273_0); (try rw [Addr.add_zero'] at hx273_0); replace p273 := eq_true p273; replace q273 := eq_true q273; have q39 : (1 : Int) ≤ ((x0_2.length : Int) : Int) := of_decide_eq_true kz4_4; obtain ⟨i039, hi039, _, hsz39, _⟩ := info_parts info5; have hroom39 : x0_2.length ≤ co37 := (Kd.V_reads' HO_0.out).2.1; have hC39 : Kd.F (Kd.int .u8) _ _ (some ad273) x0_2.length x0_2 := (Kd.V_at (base := w.heap.size) HO_0.out).2.2; have hcut39 := cut_from (P := Try.prog) 50 5 .i64 Try.underlying50 hi039 1 hsz39 (some ad273) x0_2.length co37 1 (by omega) q39; have hr39 := Kd.F_cut (m := (1 : Int).toNat) (c := co37) hC39 (by omega) hroom39; obtain ⟨A39, hA39⟩ : ∃ A1, A1 = (if co37 = (1 : Int).toNat then (some ad273) else ((some ad273) : Option Addr).map (·.add ((1 : Int).toNat * 1))) := ⟨_, rfl⟩; obtain ⟨c39, hc39⟩ : ∃ c1, c1 = co37 - (1 : Int).toNat := ⟨_, rfl⟩; have hy39 : y274.length = x0_2.length - (1 : Int).toNat := (by rw [Ny274.out, List.length_drop] <;> omega); rw [show (x0_2).drop (1 : Int).toNat = y274 from Ny274.out.symm] at hr39; replace hr39 : Kd.F (Kd.int .u8) _ _ A39 y274.length y274 := (by rw [hA39]; exact hr39); rw [← hy39, ← hA39, ← hc39] at hcut39; have HO278 := Aside0.mk (show Kd.V (Kd.int .u8) 5 _ w.heap.size _ (.slice A39 y274.length c39) y274 from Kd.V_mk (by rw [hy39, hc39]; exact Nat.sub_le_sub_right hroom39 _) hr39); have HC278 := Aside0.mk (show y274.length ≤ c39 from by rw [hy39, hc39]; exact Nat.sub_le_sub_right hroom39 _); clear hr39 hC39 hroom39 hi039 hsz39 hc39; have KY39 := Aside0.mk hy39; have KA39 := Aside0.mk hA39; clear hy39 hA39; replace q39 := eq_true q39) | ((with_reducible refine gate_callee (f := 77) rfl ?_); refine goesL_ (some 45) rfl rfl Try.func77 (by kernel_rfl) rfl #[.slice A39 y274.length c39] rfl kz4_3 ?_; (with_reducible refine (pack_TakeNumber.calls k2 _ _ y274 t279 t280 t281 _ ?side1 ?side2 A18.out).mono ?_); (case side1 => repeat (first | exact (Kd.V_reads' HO278.out).2.2 | (with_reducible refine Kd.C_alloc ?_ _) | (with_reducible refine Kd.C_drewN ?_ _) | (with_reducible refine Kd.C_drew ?_))); (case side2 => exact (Kd.V_reads' HO278.out).2.1); rintro e w' ⟨rfl, ⟨nd, rfl⟩⟩; refine ⟨_, rfl, ?_⟩; (try (rw [drewN_self w38]; generalize hq_ : World.drewN w38 _ = w38; have n0_ : Aside0 (Kd.V (Kd.int .u8) 5 w38 w.heap.size (fun k_ => (P0_ k_ ∨ w.heap.size ≤ k_) ∧ some k_ ≠ (u7 : Value).ownBlock ∧ k_ ≠ gb272) (.slice A39 y274.length c39) y274) := ⟨by rw [← hq_]; exact kz4_12⟩; have n1_ : Aside0 (Kd.V (Kd.int .u8) 5 w38 w.heap.size (fun k_ => (P0_ k_ ∨ w.heap.size ≤ k_) ∧ some k_ ≠ (u7 : Value).ownBlock ∧ k_ ≠ gb272) (.slice (some ad273) x0_2.length co37) x0_2) := ⟨by rw [← hq_]; exact kz4_13⟩; have n2_ : Aside0 (Kd.R k112 112 w38 w.heap.size (fun k_ => (w.heap.size ≤ k_) ∧ k_ ≠ gb272) u7 x7_2) := ⟨by rw [← hq_]; exact kz4_5⟩; have n3_ : Aside0 (w38.heap[gb272]? = some (.cells #[.bool false, .int .i64 0, .string (⟨#[]⟩ : ByteArray)] 112 (0, 0))) := ⟨by rw [← hq_]; exact kz4_10⟩; have n4_ : Aside0 (Below w.heap.size w w38) := ⟨by rw [← hq_]; exact kz4_2⟩; clear HO278 HO_0 HO_7 BK272 HB hq_; have HO278 := n0_; have HO_0 := n1_; have HO_7 := n2_; have BK272 := n3_; have HB := n4_; clear n0_ n1_ n2_ n3_ n4_)); have hcz40_0 : w38.cell? ⟨gb272, 0, none⟩ = some (.bool false) := (blk_cell BK272.out 0).trans rfl; have hcz40_1 : w38.cell? ⟨gb272, 1, none⟩ = some (.int .i64 0) := (blk_cell BK272.out 1).trans rfl; have hcz40_2 : w38.cell? ⟨gb272, 2, none⟩ = some (.string (⟨#[]⟩ : ByteArray)) := (blk_cell BK272.out 2).trans rfl; have hfz40_0 := blk_frozen BK272.out 0; have hfz40_1 := blk_frozen BK272.out 1; have hfz40_2 := blk_frozen BK272.out 2))
               go_ret2
               exact ⟨_, by first | rfl | (simp [errW_none, errW_some] <;> rfl) | (simp [*, errW_none, errW_some] <;> rfl), by first | exact Kd.R_nil _ _ _ _ _ | exact Kd.N_nil _ _ _ _ _ | exact Kd.V_nil _ _ _ _ _ | exact Kd.Q_nil _ _ _ _ _ | exact Kd.S_nil _ _ _ _ _, by repeat (first | (with_reducible first | exact HB.out | apply below_alloc | apply pw_below_drewN | apply below_drew1 | refine below_set ?_ GE272.out) | exact HB.out)⟩
             ·rw [if_neg c17] at H
              exact absurd H (by simp)
            ·rw [if_neg c16] at H
             have c16b0 : ((rd x0_2 0) == 1) = false := beq_eq_false_iff_ne.mpr c16
             have c16b1 : ((rd x0_2 0) != 1) = true := bne_iff_ne.mpr c16
             by_cases c41 : (rd x0_2 0) = 2
             ·rw [if_pos c41] at H
              have c41b0 : ((rd x0_2 0) == 2) = true := beq_iff_eq.mpr c41
              have c41b1 : ((rd x0_2 0) != 2) = false := bne_eq_false_iff_eq.mpr c41
              clear c41
              by_cases c42 : 1 ≤ (x0_2.length : Int)
              ·rw [if_pos c42] at H
               have c42b0 := eq_true c42
               have c42b1 : decide (1 ≤ (x0_2.length : Int)) = true := decide_eq_true c42
               clear c42
               obtain ⟨y290, hy290⟩ : ∃ y_ : List Int, y_ = (x0_2.drop 1) := ⟨_, rfl⟩
               replace H : ((pack_TakeText.f k2 y290).bind fun bt295 => (if bt295.2.2 = 0 then (if (x7_2.length : Int) = t261 then (some (([] : List (S112)), 2)) else (if x7_2.length < 4398046511104 then (if 0 ≤ (wrap64 (1 + bt295.2.1)) then (if (wrap64 (1 + bt295.2.1)) ≤ (x0_2.length : Int) then (pack_Read.l0 k2 (x0_2.drop ((wrap64 (1 + bt295.2.1)) : Int).toNat) t261 (x7_2 ++ [(⟨true, 0, bt295.1⟩ : S112)])) else (none)) else (none)) else (none))) else (some (([] : List (S112)), 2)))) = some (r1, r2) := by first | (rw [hy290]; with_reducible exact H) | (have H2_ := (Option.bind_some _ _).symm.trans H; rw [hy290]; with_reducible exact H2_) | (have H2_ := (Option.bind_some _ _).symm.trans H; with_reducible exact H2_) | with_reducible exact H | (rw [hy290]; exact H) | exact H
               have Ny290 := Aside0.mk hy290
               clear hy290
               replace H := Option.bind_eq_some_iff.mp H
               obtain ⟨⟨t295, t296, t297⟩, A430, H⟩ := H
               replace H : (if t297 = 0 then (if (x7_2.length : Int) = t261 then (some (([] : List (S112)), 2)) else (if x7_2.length < 4398046511104 then (if 0 ≤ (wrap64 (1 + t296)) then (if (wrap64 (1 + t296)) ≤ (x0_2.length : Int) then (pack_Read.l0 k2 (x0_2.drop ((wrap64 (1 + t296)) : Int).toNat) t261 (x7_2 ++ [(⟨true, 0, t295⟩ : S112)])) else (none)) else (none)) else (none))) else (some (([] : List (S112)), 2))) = some (r1, r2) := H
               have A43 := Aside0.mk A430
               clear A430
               by_cases c44 : t297 = 0
               ·rw [if_pos c44] at H
                have c44b0 : (t297 == 0) = true := beq_iff_eq.mpr c44
                have c44b1 : (t297 != 0) = false := bne_eq_false_iff_eq.mpr c44
                clear c44
                by_cases c45 : (x7_2.length : Int) = t261
                ·rw [if_pos c45] at H
                 have c45b0 : ((x7_2.length : Int) == t261) = true := beq_iff_eq.mpr c45
                 have c45b1 : ((x7_2.length : Int) != t261) = false := bne_eq_false_iff_eq.mpr c45
                 clear c45
                 simp only [Option.some.injEq, Prod.mk.injEq] at H
                 obtain ⟨rfl, rfl⟩ := H
                 obtain ⟨Ao46, co46, eo46⟩ := Kd.V_slice HO_0.out
                 subst eo46
                 go_wp2_with (first | ((with_reducible refine gate_dst (N := 8) rfl ?_); (try (refine gate_guard (by rfl) ?_; dsimp only)); refine box_event ?hg (N := 8) ?hd (cs := #[.bool false, .int .i64 0, .string (⟨#[]⟩ : ByteArray)]) (t := 112) ?hr ?_; (case hd => rfl); (case hg => rfl); (case hr => first | (go_simp; done) | (go_simp; rfl)); intro gb272 hg w47 hbox hb; have n0_ := Aside0.mk (Kd.V_below (Kd.V_elderB kz4_6 gb272 (Nat.le_of_eq hg.symm)) hb); have n1_ := Aside0.mk (Kd.R_below (Kd.R_elderB kz4_5 gb272 (Nat.le_of_eq hg.symm)) hb); have n2_ := Aside0.mk (below_step kz4_1 hb); have n3_ := Aside0.mk (hbox); have n4_ := Aside0.mk ((by rw [hg]; exact (below_size kz4_1) : w.heap.size ≤ gb272)); have n5_ := Aside0.mk ((by rw [hg]; exact (below_size kz4_1) : w.heap.size ≤ gb272)); clear HO_0; clear HO_7; clear HB; have HO_0 := n0_; have HO_7 := n1_; have HB := n2_; have BK272 := n3_; have GW272 := n4_; have GE272 := n5_; clear n0_ n1_ n2_ n3_ n4_ n5_; clear hb hbox hg; have p273 : 0 ≤ (0 : Int) := (by omega); have q273 : 0 < (x0_2.length : Int) := of_decide_eq_true kz4_4; obtain ⟨ad273, e273, hx273_0⟩ := Kd.at_int (Kd.V_reads' HO_0.out).2.2 0 p273 q273; cases e273; have qi273 : (0 < x0_2.length) = True := eq_true (by omega); (try rw [show ((0 : Int)).toNat = 0 from rfl] at hx273_0); (try rw [Addr.add_zero'] at hx273_0); replace p273 := eq_true p273; replace q273 := eq_true q273; have hcz48_0 : w47.cell? ⟨gb272, 0, none⟩ = some (.bool false) := (blk_cell BK272.out 0).trans rfl; have hcz48_1 : w47.cell? ⟨gb272, 1, none⟩ = some (.int .i64 0) := (blk_cell BK272.out 1).trans rfl; have hcz48_2 : w47.cell? ⟨gb272, 2, none⟩ = some (.string (⟨#[]⟩ : ByteArray)) := (blk_cell BK272.out 2).trans rfl; have hfz48_0 := blk_frozen BK272.out 0; have hfz48_1 := blk_frozen BK272.out 1; have hfz48_2 := blk_frozen BK272.out 2) | ((with_reducible refine gate_store (t := 4) (p := 52) rfl ?_); refine store_event (t := 4) (p := 52) (v := ?vo_w49) (w1 := (w47.setCell ⟨gb272, 0, none⟩ (.bool true))) ?hg ?ho ?hn ?hr ?_; (case ho => rfl); (case hg => rfl); (case hn => rfl); (case hr => first | (go_simp; done) | (go_simp; rfl)); intro w49 hw; have n0_ : Aside0 (Kd.V (Kd.int .u8) 5 w49 w.heap.size (fun k_ => (P0_ k_ ∨ w.heap.size ≤ k_) ∧ some k_ ≠ (u7 : Value).ownBlock ∧ k_ ≠ gb272) (.slice (some ad273) x0_2.length co46) x0_2) := ⟨kz4_8⟩; have n1_ : Aside0 (Kd.R k112 112 w49 w.heap.size (fun k_ => (w.heap.size ≤ k_) ∧ k_ ≠ gb272) u7 x7_2) := ⟨kz4_9⟩; have n2_ : Aside0 (w49.heap[gb272]? = some (.cells #[.bool true, .int .i64 0, .string (⟨#[]⟩ : ByteArray)] 112 (0, 0))) := ⟨kz4_7⟩; have n3_ : Aside0 (Below w.heap.size w w49) := ⟨(by rw [hw]; exact kz4_2)⟩; clear hw; clear HO_0; clear HO_7; clear BK272; clear HB; have HO_0 := n0_; have HO_7 := n1_; have BK272 := n2_; have HB := n3_; clear n0_ n1_ n2_ n3_; have q50 : (1 : Int) ≤ ((x0_2.length : Int) : Int) := of_decide_eq_true kz4_4; obtain ⟨i050, hi050, _, hsz50, _⟩ := info_parts info5; have hroom50 : x0_2.length ≤ co46 := (Kd.V_reads' HO_0.out).2.1; have hC50 : Kd.F (Kd.int .u8) _ _ (some ad273) x0_2.length x0_2 := (Kd.V_at (base := w.heap.size) HO_0.out).2.2; have hcut50 := cut_from (P := Try.prog) 50 5 .i64 Try.underlying50 hi050 1 hsz50 (some ad273) x0_2.length co46 1 (by omega) q50; have hr50 := Kd.F_cut (m := (1 : Int).toNat) (c := co46) hC50 (by omega) hroom50; obtain ⟨A50, hA50⟩ : ∃ A1, A1 = (if co46 = (1 : Int).toNat then (some ad273) else ((some ad273) : Option Addr).map (·.add ((1 : Int).toNat * 1))) := ⟨_, rfl⟩; obtain ⟨c50, hc50⟩ : ∃ c1, c1 = co46 - (1 : Int).toNat := ⟨_, rfl⟩; have hy50 : y290.length = x0_2.length - (1 : Int).toNat := (by rw [Ny290.out, List.length_drop] <;> omega); rw [show (x0_2).drop (1 : Int).toNat = y290 from Ny290.out.symm] at hr50; replace hr50 : Kd.F (Kd.int .u8) _ _ A50 y290.length y290 := (by rw [hA50]; exact hr50); rw [← hy50, ← hA50, ← hc50] at hcut50; have HO294 := Aside0.mk (show Kd.V (Kd.int .u8) 5 _ w.heap.size _ (.slice A50 y290.length c50) y290 from Kd.V_mk (by rw [hy50, hc50]; exact Nat.sub_le_sub_right hroom50 _) hr50); have HC294 := Aside0.mk (show y290.length ≤ c50 from by rw [hy50, hc50]; exact Nat.sub_le_sub_right hroom50 _); clear hr50 hC50 hroom50 hi050 hsz50 hc50; have KY50 := Aside0.mk hy50; have KA50 := Aside0.mk hA50; clear hy50 hA50; replace q50 := eq_true q50) | ((with_reducible refine gate_callee (f := 78) rfl ?_); refine goesL_ (some 56) rfl rfl Try.func78 (by kernel_rfl) rfl #[.slice A50 y290.length c50] rfl kz4_3 ?_; (with_reducible refine (pack_TakeText.calls k2 _ _ y290 t295 t296 t297 _ ?side1 ?side2 A43.out).mono ?_); (case side1 => repeat (first | exact (Kd.V_reads' HO294.out).2.2 | (with_reducible refine Kd.C_alloc ?_ _) | (with_reducible refine Kd.C_drewN ?_ _) | (with_reducible refine Kd.C_drew ?_))); (case side2 => exact (Kd.V_reads' HO294.out).2.1); rintro e w' ⟨rfl, ⟨nd, rfl⟩⟩; refine ⟨_, rfl, ?_⟩; (try (rw [drewN_self w49]; generalize hq_ : World.drewN w49 _ = w49; have n0_ : Aside0 (Kd.V (Kd.int .u8) 5 w49 w.heap.size (fun k_ => (P0_ k_ ∨ w.heap.size ≤ k_) ∧ some k_ ≠ (u7 : Value).ownBlock ∧ k_ ≠ gb272) (.slice A50 y290.length c50) y290) := ⟨by rw [← hq_]; exact kz4_16⟩; have n1_ : Aside0 (Kd.V (Kd.int .u8) 5 w49 w.heap.size (fun k_ => (P0_ k_ ∨ w.heap.size ≤ k_) ∧ some k_ ≠ (u7 : Value).ownBlock ∧ k_ ≠ gb272) (.slice (some ad273) x0_2.length co46) x0_2) := ⟨by rw [← hq_]; exact kz4_6⟩; have n2_ : Aside0 (Kd.R k112 112 w49 w.heap.size (fun k_ => (w.heap.size ≤ k_) ∧ k_ ≠ gb272) u7 x7_2) := ⟨by rw [← hq_]; exact kz4_5⟩; have n3_ : Aside0 (w49.heap[gb272]? = some (.cells #[.bool true, .int .i64 0, .string (⟨#[]⟩ : ByteArray)] 112 (0, 0))) := ⟨by rw [← hq_]; exact kz4_10⟩; have n4_ : Aside0 (Below w.heap.size w w49) := ⟨by rw [← hq_]; exact kz4_2⟩; clear HO294 HO_0 HO_7 BK272 HB hq_; have HO294 := n0_; have HO_0 := n1_; have HO_7 := n2_; have BK272 := n3_; have HB := n4_; clear n0_ n1_ n2_ n3_ n4_)); have hcz51_0 : w49.cell? ⟨gb272, 0, none⟩ = some (.bool true) := (blk_cell BK272.out 0).trans rfl; have hcz51_1 : w49.cell? ⟨gb272, 1, none⟩ = some (.int .i64 0) := (blk_cell BK272.out 1).trans rfl; have hcz51_2 : w49.cell? ⟨gb272, 2, none⟩ = some (.string (⟨#[]⟩ : ByteArray)) := (blk_cell BK272.out 2).trans rfl; have hfz51_0 := blk_frozen BK272.out 0; have hfz51_1 := blk_frozen BK272.out 1; have hfz51_2 := blk_frozen BK272.out 2; obtain ⟨Ao52, co52, eo52⟩ := Kd.R_slice HO_7.out; subst eo52))
                 go_ret2
                 exact ⟨_, by first | rfl | (simp [errW_none, errW_some] <;> rfl) | (simp [*, errW_none, errW_some] <;> rfl), by first | exact Kd.R_nil _ _ _ _ _ | exact Kd.N_nil _ _ _ _ _ | exact Kd.V_nil _ _ _ _ _ | exact Kd.Q_nil _ _ _ _ _ | exact Kd.S_nil _ _ _ _ _, by repeat (first | (with_reducible first | exact HB.out | apply below_alloc | apply pw_below_drewN | apply below_drew1 | refine below_set ?_ GE272.out) | exact HB.out)⟩
                ·rw [if_neg c45] at H
                 have c45b0 : ((x7_2.length : Int) == t261) = false := beq_eq_false_iff_ne.mpr c45
                 have c45b1 : ((x7_2.length : Int) != t261) = true := bne_iff_ne.mpr c45
                 by_cases c53 : x7_2.length < 4398046511104
                 ·rw [if_pos c53] at H
                  have LMc53 := Aside0.mk c53
                  clear c53
                  obtain ⟨y298, hy298⟩ : ∃ y_ : List (S112), y_ = (x7_2 ++ [(⟨true, 0, t295⟩ : S112)]) := ⟨_, rfl⟩
                  replace H : (if 0 ≤ (wrap64 (1 + t296)) then (if (wrap64 (1 + t296)) ≤ (x0_2.length : Int) then (pack_Read.l0 k2 (x0_2.drop ((wrap64 (1 + t296)) : Int).toNat) t261 y298) else (none)) else (none)) = some (r1, r2) := by first | (rw [hy298]; with_reducible exact H) | (have H2_ := (Option.bind_some _ _).symm.trans H; rw [hy298]; with_reducible exact H2_) | (have H2_ := (Option.bind_some _ _).symm.trans H; with_reducible exact H2_) | with_reducible exact H | (rw [hy298]; exact H) | exact H
                  have Ny298 := Aside0.mk hy298
                  clear hy298
                  obtain ⟨ji54, hji54⟩ : ∃ j_ : Int, (wrap64 (1 + t296)) = j_ := ⟨_, rfl⟩
                  replace H : (if 0 ≤ (ji54) then (if (ji54) ≤ (x0_2.length : Int) then (pack_Read.l0 k2 (x0_2.drop ((ji54) : Int).toNat) t261 y298) else (none)) else (none)) = some (r1, r2) := by first | (rw [hji54] at H; exact H) | (simp only [hji54] at H ⊢; exact H)
                  (try rw [hji54] at A43)
                  have hji54w : (IntKind.i64.wrap (1 + t296)) = ji54 := (i64_w _).trans hji54
                  by_cases c55 : 0 ≤ (ji54)
                  ·rw [if_pos c55] at H
                   have c55b0 := eq_true c55
                   have c55b1 : decide (0 ≤ (ji54)) = true := decide_eq_true c55
                   clear c55
                   by_cases c56 : (ji54) ≤ (x0_2.length : Int)
                   ·rw [if_pos c56] at H
                    have c56b0 := eq_true c56
                    have c56b1 : decide ((ji54) ≤ (x0_2.length : Int)) = true := decide_eq_true c56
                    clear c56
                    obtain ⟨y301, hy301⟩ : ∃ y_ : List Int, y_ = (x0_2.drop ((ji54) : Int).toNat) := ⟨_, rfl⟩
                    replace H : (pack_Read.l0 k2 y301 t261 y298) = some (r1, r2) := by first | (rw [hy301]; with_reducible exact H) | (have H2_ := (Option.bind_some _ _).symm.trans H; rw [hy301]; with_reducible exact H2_) | (have H2_ := (Option.bind_some _ _).symm.trans H; with_reducible exact H2_) | with_reducible exact H | (rw [hy301]; exact H) | exact H
                    have Ny301 := Aside0.mk hy301
                    clear hy301
                    have H' := Aside0.mk H
                    clear H
                    obtain ⟨Ao57, co57, eo57⟩ := Kd.V_slice HO_0.out
                    subst eo57
                    go_wp2_with (first | ((with_reducible refine gate_dst (N := 8) rfl ?_); (try (refine gate_guard (by rfl) ?_; dsimp only)); refine box_event ?hg (N := 8) ?hd (cs := #[.bool false, .int .i64 0, .string (⟨#[]⟩ : ByteArray)]) (t := 112) ?hr ?_; (case hd => rfl); (case hg => rfl); (case hr => first | (go_simp; done) | (go_simp; rfl)); intro gb272 hg w58 hbox hb; have n0_ := Aside0.mk (Kd.V_below (Kd.V_elderB kz4_6 gb272 (Nat.le_of_eq hg.symm)) hb); have n1_ := Aside0.mk (Kd.R_below (Kd.R_elderB kz4_5 gb272 (Nat.le_of_eq hg.symm)) hb); have n2_ := Aside0.mk (below_step kz4_1 hb); have n3_ := Aside0.mk (hbox); have n4_ := Aside0.mk ((by rw [hg]; exact (below_size kz4_1) : w.heap.size ≤ gb272)); have n5_ := Aside0.mk ((by rw [hg]; exact (below_size kz4_1) : w.heap.size ≤ gb272)); clear HO_0; clear HO_7; clear HB; have HO_0 := n0_; have HO_7 := n1_; have HB := n2_; have BK272 := n3_; have GW272 := n4_; have GE272 := n5_; clear n0_ n1_ n2_ n3_ n4_ n5_; clear hb hbox hg; have p273 : 0 ≤ (0 : Int) := (by omega); have q273 : 0 < (x0_2.length : Int) := of_decide_eq_true kz4_4; obtain ⟨ad273, e273, hx273_0⟩ := Kd.at_int (Kd.V_reads' HO_0.out).2.2 0 p273 q273; cases e273; have qi273 : (0 < x0_2.length) = True := eq_true (by omega); (try rw [show ((0 : Int)).toNat = 0 from rfl] at hx273_0); (try rw [Addr.add_zero'] at hx273_0); replace p273 := eq_true p273; replace q273 := eq_true q273; have hcz59_0 : w58.cell? ⟨gb272, 0, none⟩ = some (.bool false) := (blk_cell BK272.out 0).trans rfl; have hcz59_1 : w58.cell? ⟨gb272, 1, none⟩ = some (.int .i64 0) := (blk_cell BK272.out 1).trans rfl; have hcz59_2 : w58.cell? ⟨gb272, 2, none⟩ = some (.string (⟨#[]⟩ : ByteArray)) := (blk_cell BK272.out 2).trans rfl; have hfz59_0 := blk_frozen BK272.out 0; have hfz59_1 := blk_frozen BK272.out 1; have hfz59_2 := blk_frozen BK272.out 2) | ((with_reducible refine gate_store (t := 4) (p := 52) rfl ?_); refine store_event (t := 4) (p := 52) (v := ?vo_w60) (w1 := (w58.setCell ⟨gb272, 0, none⟩ (.bool true))) ?hg ?ho ?hn ?hr ?_; (case ho => rfl); (case hg => rfl); (case hn => rfl); (case hr => first | (go_simp; done) | (go_simp; rfl)); intro w60 hw; have n0_ : Aside0 (Kd.V (Kd.int .u8) 5 w60 w.heap.size (fun k_ => (P0_ k_ ∨ w.heap.size ≤ k_) ∧ some k_ ≠ (u7 : Value).ownBlock ∧ k_ ≠ gb272) (.slice (some ad273) x0_2.length co57) x0_2) := ⟨kz4_8⟩; have n1_ : Aside0 (Kd.R k112 112 w60 w.heap.size (fun k_ => (w.heap.size ≤ k_) ∧ k_ ≠ gb272) u7 x7_2) := ⟨kz4_9⟩; have n2_ : Aside0 (w60.heap[gb272]? = some (.cells #[.bool true, .int .i64 0, .string (⟨#[]⟩ : ByteArray)] 112 (0, 0))) := ⟨kz4_7⟩; have n3_ : Aside0 (Below w.heap.size w w60) := ⟨(by rw [hw]; exact kz4_2)⟩; clear hw; clear HO_0; clear HO_7; clear BK272; clear HB; have HO_0 := n0_; have HO_7 := n1_; have BK272 := n2_; have HB := n3_; clear n0_ n1_ n2_ n3_; have q61 : (1 : Int) ≤ ((x0_2.length : Int) : Int) := of_decide_eq_true kz4_4; obtain ⟨i061, hi061, _, hsz61, _⟩ := info_parts info5; have hroom61 : x0_2.length ≤ co57 := (Kd.V_reads' HO_0.out).2.1; have hC61 : Kd.F (Kd.int .u8) _ _ (some ad273) x0_2.length x0_2 := (Kd.V_at (base := w.heap.size) HO_0.out).2.2; have hcut61 := cut_from (P := Try.prog) 50 5 .i64 Try.underlying50 hi061 1 hsz61 (some ad273) x0_2.length co57 1 (by omega) q61; have hr61 := Kd.F_cut (m := (1 : Int).toNat) (c := co57) hC61 (by omega) hroom61; obtain ⟨A61, hA61⟩ : ∃ A1, A1 = (if co57 = (1 : Int).toNat then (some ad273) else ((some ad273) : Option Addr).map (·.add ((1 : Int).toNat * 1))) := ⟨_, rfl⟩; obtain ⟨c61, hc61⟩ : ∃ c1, c1 = co57 - (1 : Int).toNat := ⟨_, rfl⟩; have hy61 : y290.length = x0_2.length - (1 : Int).toNat := (by rw [Ny290.out, List.length_drop] <;> omega); rw [show (x0_2).drop (1 : Int).toNat = y290 from Ny290.out.symm] at hr61; replace hr61 : Kd.F (Kd.int .u8) _ _ A61 y290.length y290 := (by rw [hA61]; exact hr61); rw [← hy61, ← hA61, ← hc61] at hcut61; have HO294 := Aside0.mk (show Kd.V (Kd.int .u8) 5 _ w.heap.size _ (.slice A61 y290.length c61) y290 from Kd.V_mk (by rw [hy61, hc61]; exact Nat.sub_le_sub_right hroom61 _) hr61); have HC294 := Aside0.mk (show y290.length ≤ c61 from by rw [hy61, hc61]; exact Nat.sub_le_sub_right hroom61 _); clear hr61 hC61 hroom61 hi061 hsz61 hc61; have KY61 := Aside0.mk hy61; have KA61 := Aside0.mk hA61; clear hy61 hA61; replace q61 := eq_true q61) | ((with_reducible refine gate_callee (f := 78) rfl ?_); refine goesL_ (some 56) rfl rfl Try.func78 (by kernel_rfl) rfl #[.slice A61 y290.length c61] rfl kz4_3 ?_; (with_reducible refine (pack_TakeText.calls k2 _ _ y290 t295 t296 t297 _ ?side1 ?side2 A43.out).mono ?_); (case side1 => repeat (first | exact (Kd.V_reads' HO294.out).2.2 | (with_reducible refine Kd.C_alloc ?_ _) | (with_reducible refine Kd.C_drewN ?_ _) | (with_reducible refine Kd.C_drew ?_))); (case side2 => exact (Kd.V_reads' HO294.out).2.1); rintro e w' ⟨rfl, ⟨nd, rfl⟩⟩; refine ⟨_, rfl, ?_⟩; (try (rw [drewN_self w60]; generalize hq_ : World.drewN w60 _ = w60; have n0_ : Aside0 (Kd.V (Kd.int .u8) 5 w60 w.heap.size (fun k_ => (P0_ k_ ∨ w.heap.size ≤ k_) ∧ some k_ ≠ (u7 : Value).ownBlock ∧ k_ ≠ gb272) (.slice A61 y290.length c61) y290) := ⟨by rw [← hq_]; exact kz4_16⟩; have n1_ : Aside0 (Kd.V (Kd.int .u8) 5 w60 w.heap.size (fun k_ => (P0_ k_ ∨ w.heap.size ≤ k_) ∧ some k_ ≠ (u7 : Value).ownBlock ∧ k_ ≠ gb272) (.slice (some ad273) x0_2.length co57) x0_2) := ⟨by rw [← hq_]; exact kz4_6⟩; have n2_ : Aside0 (Kd.R k112 112 w60 w.heap.size (fun k_ => (w.heap.size ≤ k_) ∧ k_ ≠ gb272) u7 x7_2) := ⟨by rw [← hq_]; exact kz4_5⟩; have n3_ : Aside0 (w60.heap[gb272]? = some (.cells #[.bool true, .int .i64 0, .string (⟨#[]⟩ : ByteArray)] 112 (0, 0))) := ⟨by rw [← hq_]; exact kz4_10⟩; have n4_ : Aside0 (Below w.heap.size w w60) := ⟨by rw [← hq_]; exact kz4_2⟩; clear HO294 HO_0 HO_7 BK272 HB hq_; have HO294 := n0_; have HO_0 := n1_; have HO_7 := n2_; have BK272 := n3_; have HB := n4_; clear n0_ n1_ n2_ n3_ n4_)); have hcz62_0 : w60.cell? ⟨gb272, 0, none⟩ = some (.bool true) := (blk_cell BK272.out 0).trans rfl; have hcz62_1 : w60.cell? ⟨gb272, 1, none⟩ = some (.int .i64 0) := (blk_cell BK272.out 1).trans rfl; have hcz62_2 : w60.cell? ⟨gb272, 2, none⟩ = some (.string (⟨#[]⟩ : ByteArray)) := (blk_cell BK272.out 2).trans rfl; have hfz62_0 := blk_frozen BK272.out 0; have hfz62_1 := blk_frozen BK272.out 1; have hfz62_2 := blk_frozen BK272.out 2; obtain ⟨Ao63, co63, eo63⟩ := Kd.R_slice HO_7.out; subst eo63) | ((with_reducible refine gate_builtin (b := .append) (xs := #[.tmp 69, .tmp 71]) rfl ?_); (try (refine gate_guard (by rfl) ?_; dsimp only)); at_builtin; refine Kd.R_append k112 (w0 := w) w.heap.size rfl (.tmp 69) (.tmp 71) 114 112 (.agg #[(.bool false), (.int .i64 0), (.string ⟨#[]⟩)]) 32 rfl Try.underlying114 info112 rfl (by decide) (by omega) (.slice Ao63 x7_2.length co63) x7_2 (⟨true, 0, t295⟩ : S112) [.bool true, .int .i64 0, .string t295] (fun k_ => (w.heap.size ≤ k_) ∧ k_ ≠ gb272) (fun _ => False) rfl (by first | (go_simp; done) | (go_simp; rfl)) ?aP (fun _ hk => hk.elim) ?aF ?aO ?aB ?aS ?aL ?_; (case aP => exact k112_mkM _ _ _ (⟨true, 0, t295⟩ : S112)); (case aB => exact kz4_2); (case aF => exact (fun k_ hk => ⟨(Nat.le_trans (below_size kz4_2) hk), Kd.freshB (g := gb272) (o := .cells #[.bool true, .int .i64 0, .string t295] 112 (0, 0)) kz4_15 k_ hk⟩)); (case aO => exact (by (with_reducible repeat (first | apply Kd.R_alloc | apply Kd.R_drewN | apply Kd.R_drew)); exact Kd.R_mono (Kd.R_far (p := ⟨gb272, 2, none⟩) (Kd.R_mono HO_7.out (fun k_ hk => (⟨hk, hk.2⟩ : _ ∧ k_ ≠ gb272))) (fun _ hk => hk.2) (.string t295)) (fun _ hk => ⟨hk.1.1, hk.1.2⟩))); (case aS => exact (below_size kz4_2)); (case aL => have := LMc53.out; omega); intro v299 w64 ho hb hg hat; rw [← Ny298.out] at ho; have n0_ := Aside0.mk (Kd.V_afterv (ok := (fun k_ => (P0_ k_ ∨ w.heap.size ≤ k_) ∧ k_ ≠ gb272)) (by (with_reducible repeat (first | apply Kd.V_alloc | apply Kd.V_drewN | apply Kd.V_drew)); exact Kd.V_mono (Kd.V_far (p := ⟨gb272, 2, none⟩) (Kd.V_mono HO_0.out (fun k_ hk => (⟨hk, hk.2.2⟩ : _ ∧ k_ ≠ gb272))) (fun _ hk => hk.2) (.string t295)) (fun _ hk => ⟨⟨hk.1.1, hk.1.2.2⟩, hk.1.2.1⟩)) hg hat); have n1_ := Aside0.mk (blk_grown (g := gb272) (o := .cells #[.bool true, .int .i64 0, .string t295] 112 (0, 0)) kz4_15 hg (Kd.R_away HO_7.out (fun _ hk => hk.2))); have n2_ := Aside0.mk (Kd.V_afterv (ok := (fun k_ => (P0_ k_ ∨ w.heap.size ≤ k_) ∧ k_ ≠ gb272)) (by (with_reducible repeat (first | apply Kd.V_alloc | apply Kd.V_drewN | apply Kd.V_drew)); exact Kd.V_mono (Kd.V_far (p := ⟨gb272, 2, none⟩) (Kd.V_mono HO294.out (fun k_ hk => (⟨hk, hk.2.2⟩ : _ ∧ k_ ≠ gb272))) (fun _ hk => hk.2) (.string t295)) (fun _ hk => ⟨⟨hk.1.1, hk.1.2.2⟩, hk.1.2.1⟩)) hg hat); have n3_ := Aside0.mk (hb); have n4_ := Aside0.mk (ho); clear HO_0; clear BK272; clear HO294; clear HB; clear HO_7; have HO_0 := n0_; have BK272 := n1_; have HO294 := n2_; have HB := n3_; have HO300 := n4_; clear n0_ n1_ n2_ n3_ n4_; clear ho hb hg hat; have q65 : ((ji54) : Int) ≤ ((x0_2.length : Int) : Int) := of_decide_eq_true kz4_4; obtain ⟨i065, hi065, _, hsz65, _⟩ := info_parts info5; have hroom65 : x0_2.length ≤ co57 := (Kd.V_reads' HO_0.out).2.1; have hC65 : Kd.F (Kd.int .u8) _ _ (some ad273) x0_2.length x0_2 := (Kd.V_at (base := w.heap.size) HO_0.out).2.2; have q065 : (0 : Int) ≤ ((ji54) : Int) := of_decide_eq_true kz4_4; have hcut65 := cut_from (P := Try.prog) 50 5 .i64 Try.underlying50 hi065 1 hsz65 (some ad273) x0_2.length co57 (ji54) q065 q65; have hr65 := Kd.F_cut (m := ((ji54) : Int).toNat) (c := co57) hC65 (by omega) hroom65; obtain ⟨A65, hA65⟩ : ∃ A1, A1 = (if co57 = ((ji54) : Int).toNat then (some ad273) else ((some ad273) : Option Addr).map (·.add (((ji54) : Int).toNat * 1))) := ⟨_, rfl⟩; obtain ⟨c65, hc65⟩ : ∃ c1, c1 = co57 - ((ji54) : Int).toNat := ⟨_, rfl⟩; have hy65 : y301.length = x0_2.length - ((ji54) : Int).toNat := (by rw [Ny301.out, List.length_drop] <;> omega); rw [show (x0_2).drop ((ji54) : Int).toNat = y301 from Ny301.out.symm] at hr65; replace hr65 : Kd.F (Kd.int .u8) _ _ A65 y301.length y301 := (by rw [hA65]; exact hr65); rw [← hy65, ← hA65, ← hc65] at hcut65; have HO305 := Aside0.mk (show Kd.V (Kd.int .u8) 5 _ w.heap.size _ (.slice A65 y301.length c65) y301 from Kd.V_mk (by rw [hy65, hc65]; exact Nat.sub_le_sub_right hroom65 _) hr65); have HC305 := Aside0.mk (show y301.length ≤ c65 from by rw [hy65, hc65]; exact Nat.sub_le_sub_right hroom65 _); clear hr65 hC65 hroom65 hi065 hsz65 hc65; have KY65 := Aside0.mk hy65; have KA65 := Aside0.mk hA65; clear hy65 hA65; replace q65 := eq_true q65))
                    go_roundg k2
                    case measure => have := HJ2.out; have := HK2.out; omega
                    case rel => exact ⟨(y301), (y298), H', ⟨by have := HJ2.out; have := HK2.out; omega⟩, ⟨by (with_reducible repeat (first | apply Kd.V_alloc | apply Kd.V_drewN | apply Kd.V_drew)); exact Kd.V_mono HO305.out (fun _ hk => ⟨hk.1.1, hk.2⟩)⟩, ⟨by (with_reducible repeat (first | apply Kd.R_alloc | apply Kd.R_drewN | apply Kd.R_drew)); exact Kd.R_mono HO300.out (fun _ hk => hk.1)⟩, ⟨by repeat (first | (with_reducible first | exact HB.out | apply below_alloc | apply pw_below_drewN | apply below_drew1 | refine below_set ?_ GE272.out) | exact HB.out)⟩⟩
                   ·rw [if_neg c56] at H
                    exact absurd H (by simp)
                  ·rw [if_neg c55] at H
                   exact absurd H (by simp)
                 ·rw [if_neg c53] at H
                  exact absurd H (by simp)
               ·rw [if_neg c44] at H
                have c44b0 : (t297 == 0) = false := beq_eq_false_iff_ne.mpr c44
                have c44b1 : (t297 != 0) = true := bne_iff_ne.mpr c44
                simp only [Option.some.injEq, Prod.mk.injEq] at H
                obtain ⟨rfl, rfl⟩ := H
                obtain ⟨Ao66, co66, eo66⟩ := Kd.V_slice HO_0.out
                subst eo66
                go_wp2_with (first | ((with_reducible refine gate_dst (N := 8) rfl ?_); (try (refine gate_guard (by rfl) ?_; dsimp only)); refine box_event ?hg (N := 8) ?hd (cs := #[.bool false, .int .i64 0, .string (⟨#[]⟩ : ByteArray)]) (t := 112) ?hr ?_; (case hd => rfl); (case hg => rfl); (case hr => first | (go_simp; done) | (go_simp; rfl)); intro gb272 hg w67 hbox hb; have n0_ := Aside0.mk (Kd.V_below (Kd.V_elderB kz4_6 gb272 (Nat.le_of_eq hg.symm)) hb); have n1_ := Aside0.mk (Kd.R_below (Kd.R_elderB kz4_5 gb272 (Nat.le_of_eq hg.symm)) hb); have n2_ := Aside0.mk (below_step kz4_1 hb); have n3_ := Aside0.mk (hbox); have n4_ := Aside0.mk ((by rw [hg]; exact (below_size kz4_1) : w.heap.size ≤ gb272)); have n5_ := Aside0.mk ((by rw [hg]; exact (below_size kz4_1) : w.heap.size ≤ gb272)); clear HO_0; clear HO_7; clear HB; have HO_0 := n0_; have HO_7 := n1_; have HB := n2_; have BK272 := n3_; have GW272 := n4_; have GE272 := n5_; clear n0_ n1_ n2_ n3_ n4_ n5_; clear hb hbox hg; have p273 : 0 ≤ (0 : Int) := (by omega); have q273 : 0 < (x0_2.length : Int) := of_decide_eq_true kz4_4; obtain ⟨ad273, e273, hx273_0⟩ := Kd.at_int (Kd.V_reads' HO_0.out).2.2 0 p273 q273; cases e273; have qi273 : (0 < x0_2.length) = True := eq_true (by omega); (try rw [show ((0 : Int)).toNat = 0 from rfl] at hx273_0); (try rw [Addr.add_zero'] at hx273_0); replace p273 := eq_true p273; replace q273 := eq_true q273; have hcz68_0 : w67.cell? ⟨gb272, 0, none⟩ = some (.bool false) := (blk_cell BK272.out 0).trans rfl; have hcz68_1 : w67.cell? ⟨gb272, 1, none⟩ = some (.int .i64 0) := (blk_cell BK272.out 1).trans rfl; have hcz68_2 : w67.cell? ⟨gb272, 2, none⟩ = some (.string (⟨#[]⟩ : ByteArray)) := (blk_cell BK272.out 2).trans rfl; have hfz68_0 := blk_frozen BK272.out 0; have hfz68_1 := blk_frozen BK272.out 1; have hfz68_2 := blk_frozen BK272.out 2) | ((with_reducible refine gate_store (t := 4) (p := 52) rfl ?_); refine store_event (t := 4) (p := 52) (v := ?vo_w69) (w1 := (w67.setCell ⟨gb272, 0, none⟩ (.bool true))) ?hg ?ho ?hn ?hr ?_; (case ho => rfl); (case hg => rfl); (case hn => rfl); (case hr => first | (go_simp; done) | (go_simp; rfl)); intro w69 hw; have n0_ : Aside0 (Kd.V (Kd.int .u8) 5 w69 w.heap.size (fun k_ => (P0_ k_ ∨ w.heap.size ≤ k_) ∧ some k_ ≠ (u7 : Value).ownBlock ∧ k_ ≠ gb272) (.slice (some ad273) x0_2.length co66) x0_2) := ⟨kz4_8⟩; have n1_ : Aside0 (Kd.R k112 112 w69 w.heap.size (fun k_ => (w.heap.size ≤ k_) ∧ k_ ≠ gb272) u7 x7_2) := ⟨kz4_9⟩; have n2_ : Aside0 (w69.heap[gb272]? = some (.cells #[.bool true, .int .i64 0, .string (⟨#[]⟩ : ByteArray)] 112 (0, 0))) := ⟨kz4_7⟩; have n3_ : Aside0 (Below w.heap.size w w69) := ⟨(by rw [hw]; exact kz4_2)⟩; clear hw; clear HO_0; clear HO_7; clear BK272; clear HB; have HO_0 := n0_; have HO_7 := n1_; have BK272 := n2_; have HB := n3_; clear n0_ n1_ n2_ n3_; have q70 : (1 : Int) ≤ ((x0_2.length : Int) : Int) := of_decide_eq_true kz4_4; obtain ⟨i070, hi070, _, hsz70, _⟩ := info_parts info5; have hroom70 : x0_2.length ≤ co66 := (Kd.V_reads' HO_0.out).2.1; have hC70 : Kd.F (Kd.int .u8) _ _ (some ad273) x0_2.length x0_2 := (Kd.V_at (base := w.heap.size) HO_0.out).2.2; have hcut70 := cut_from (P := Try.prog) 50 5 .i64 Try.underlying50 hi070 1 hsz70 (some ad273) x0_2.length co66 1 (by omega) q70; have hr70 := Kd.F_cut (m := (1 : Int).toNat) (c := co66) hC70 (by omega) hroom70; obtain ⟨A70, hA70⟩ : ∃ A1, A1 = (if co66 = (1 : Int).toNat then (some ad273) else ((some ad273) : Option Addr).map (·.add ((1 : Int).toNat * 1))) := ⟨_, rfl⟩; obtain ⟨c70, hc70⟩ : ∃ c1, c1 = co66 - (1 : Int).toNat := ⟨_, rfl⟩; have hy70 : y290.length = x0_2.length - (1 : Int).toNat := (by rw [Ny290.out, List.length_drop] <;> omega); rw [show (x0_2).drop (1 : Int).toNat = y290 from Ny290.out.symm] at hr70; replace hr70 : Kd.F (Kd.int .u8) _ _ A70 y290.length y290 := (by rw [hA70]; exact hr70); rw [← hy70, ← hA70, ← hc70] at hcut70; have HO294 := Aside0.mk (show Kd.V (Kd.int .u8) 5 _ w.heap.size _ (.slice A70 y290.length c70) y290 from Kd.V_mk (by rw [hy70, hc70]; exact Nat.sub_le_sub_right hroom70 _) hr70); have HC294 := Aside0.mk (show y290.length ≤ c70 from by rw [hy70, hc70]; exact Nat.sub_le_sub_right hroom70 _); clear hr70 hC70 hroom70 hi070 hsz70 hc70; have KY70 := Aside0.mk hy70; have KA70 := Aside0.mk hA70; clear hy70 hA70; replace q70 := eq_true q70) | ((with_reducible refine gate_callee (f := 78) rfl ?_); refine goesL_ (some 56) rfl rfl Try.func78 (by kernel_rfl) rfl #[.slice A70 y290.length c70] rfl kz4_3 ?_; (with_reducible refine (pack_TakeText.calls k2 _ _ y290 t295 t296 t297 _ ?side1 ?side2 A43.out).mono ?_); (case side1 => repeat (first | exact (Kd.V_reads' HO294.out).2.2 | (with_reducible refine Kd.C_alloc ?_ _) | (with_reducible refine Kd.C_drewN ?_ _) | (with_reducible refine Kd.C_drew ?_))); (case side2 => exact (Kd.V_reads' HO294.out).2.1); rintro e w' ⟨rfl, ⟨nd, rfl⟩⟩; refine ⟨_, rfl, ?_⟩; (try (rw [drewN_self w69]; generalize hq_ : World.drewN w69 _ = w69; have n0_ : Aside0 (Kd.V (Kd.int .u8) 5 w69 w.heap.size (fun k_ => (P0_ k_ ∨ w.heap.size ≤ k_) ∧ some k_ ≠ (u7 : Value).ownBlock ∧ k_ ≠ gb272) (.slice A70 y290.length c70) y290) := ⟨by rw [← hq_]; exact kz4_16⟩; have n1_ : Aside0 (Kd.V (Kd.int .u8) 5 w69 w.heap.size (fun k_ => (P0_ k_ ∨ w.heap.size ≤ k_) ∧ some k_ ≠ (u7 : Value).ownBlock ∧ k_ ≠ gb272) (.slice (some ad273) x0_2.length co66) x0_2) := ⟨by rw [← hq_]; exact kz4_6⟩; have n2_ : Aside0 (Kd.R k112 112 w69 w.heap.size (fun k_ => (w.heap.size ≤ k_) ∧ k_ ≠ gb272) u7 x7_2) := ⟨by rw [← hq_]; exact kz4_5⟩; have n3_ : Aside0 (w69.heap[gb272]? = some (.cells #[.bool true, .int .i64 0, .string (⟨#[]⟩ : ByteArray)] 112 (0, 0))) := ⟨by rw [← hq_]; exact kz4_10⟩; have n4_ : Aside0 (Below w.heap.size w w69) := ⟨by rw [← hq_]; exact kz4_2⟩; clear HO294 HO_0 HO_7 BK272 HB hq_; have HO294 := n0_; have HO_0 := n1_; have HO_7 := n2_; have BK272 := n3_; have HB := n4_; clear n0_ n1_ n2_ n3_ n4_)); have hcz71_0 : w69.cell? ⟨gb272, 0, none⟩ = some (.bool true) := (blk_cell BK272.out 0).trans rfl; have hcz71_1 : w69.cell? ⟨gb272, 1, none⟩ = some (.int .i64 0) := (blk_cell BK272.out 1).trans rfl; have hcz71_2 : w69.cell? ⟨gb272, 2, none⟩ = some (.string (⟨#[]⟩ : ByteArray)) := (blk_cell BK272.out 2).trans rfl; have hfz71_0 := blk_frozen BK272.out 0; have hfz71_1 := blk_frozen BK272.out 1; have hfz71_2 := blk_frozen BK272.out 2))
                go_ret2
                exact ⟨_, by first | rfl | (simp [errW_none, errW_some] <;> rfl) | (simp [*, errW_none, errW_some] <;> rfl), by first | exact Kd.R_nil _ _ _ _ _ | exact Kd.N_nil _ _ _ _ _ | exact Kd.V_nil _ _ _ _ _ | exact Kd.Q_nil _ _ _ _ _ | exact Kd.S_nil _ _ _ _ _, by repeat (first | (with_reducible first | exact HB.out | apply below_alloc | apply pw_below_drewN | apply below_drew1 | refine below_set ?_ GE272.out) | exact HB.out)⟩
              ·rw [if_neg c42] at H
               exact absurd H (by simp)
             ·rw [if_neg c41] at H
              have c41b0 : ((rd x0_2 0) == 2) = false := beq_eq_false_iff_ne.mpr c41
              have c41b1 : ((rd x0_2 0) != 2) = true := bne_iff_ne.mpr c41
              simp only [Option.some.injEq, Prod.mk.injEq] at H
              obtain ⟨rfl, rfl⟩ := H
              obtain ⟨Ao72, co72, eo72⟩ := Kd.V_slice HO_0.out
              subst eo72
              go_wp2_with (first | ((with_reducible refine gate_dst (N := 8) rfl ?_); (try (refine gate_guard (by rfl) ?_; dsimp only)); refine box_event ?hg (N := 8) ?hd (cs := #[.bool false, .int .i64 0, .string (⟨#[]⟩ : ByteArray)]) (t := 112) ?hr ?_; (case hd => rfl); (case hg => rfl); (case hr => first | (go_simp; done) | (go_simp; rfl)); intro gb272 hg w73 hbox hb; have n0_ := Aside0.mk (Kd.V_below (Kd.V_elderB kz4_6 gb272 (Nat.le_of_eq hg.symm)) hb); have n1_ := Aside0.mk (Kd.R_below (Kd.R_elderB kz4_5 gb272 (Nat.le_of_eq hg.symm)) hb); have n2_ := Aside0.mk (below_step kz4_1 hb); have n3_ := Aside0.mk (hbox); have n4_ := Aside0.mk ((by rw [hg]; exact (below_size kz4_1) : w.heap.size ≤ gb272)); have n5_ := Aside0.mk ((by rw [hg]; exact (below_size kz4_1) : w.heap.size ≤ gb272)); clear HO_0; clear HO_7; clear HB; have HO_0 := n0_; have HO_7 := n1_; have HB := n2_; have BK272 := n3_; have GW272 := n4_; have GE272 := n5_; clear n0_ n1_ n2_ n3_ n4_ n5_; clear hb hbox hg; have p273 : 0 ≤ (0 : Int) := (by omega); have q273 : 0 < (x0_2.length : Int) := of_decide_eq_true kz4_4; obtain ⟨ad273, e273, hx273_0⟩ := Kd.at_int (Kd.V_reads' HO_0.out).2.2 0 p273 q273; cases e273; have qi273 : (0 < x0_2.length) = True := eq_true (by omega); (try rw [show ((0 : Int)).toNat = 0 from rfl] at hx273_0); (try rw [Addr.add_zero'] at hx273_0); replace p273 := eq_true p273; replace q273 := eq_true q273))
              go_ret2
              exact ⟨_, by first | rfl | (simp [errW_none, errW_some] <;> rfl) | (simp [*, errW_none, errW_some] <;> rfl), by first | exact Kd.R_nil _ _ _ _ _ | exact Kd.N_nil _ _ _ _ _ | exact Kd.V_nil _ _ _ _ _ | exact Kd.Q_nil _ _ _ _ _ | exact Kd.S_nil _ _ _ _ _, by repeat (first | (with_reducible first | exact HB.out | apply below_alloc | apply pw_below_drewN | apply below_drew1 | refine below_set ?_ GE272.out) | exact HB.out)⟩
           ·rw [if_neg c15] at H
            exact absurd H (by simp)
          ·rw [if_neg c14] at H
           have c14b0 : decide (0 < (x0_2.length : Int)) = false := decide_eq_false c14
           have c14b1 : decide (0 < x0_2.length) = false := decide_eq_false (by omega)
           clear c14
           by_cases c74 : (x7_2.length : Int) = t261
           ·rw [if_pos c74] at H
            have c74b0 : ((x7_2.length : Int) == t261) = true := beq_iff_eq.mpr c74
            have c74b1 : ((x7_2.length : Int) != t261) = false := bne_eq_false_iff_eq.mpr c74
            clear c74
            simp only [Option.some.injEq, Prod.mk.injEq] at H
            obtain ⟨rfl, rfl⟩ := H
            obtain ⟨Ao75, co75, eo75⟩ := Kd.V_slice HO_0.out
            subst eo75
            obtain ⟨Ao76, co76, eo76⟩ := Kd.R_slice HO_7.out
            subst eo76
            go_wp2
            go_ret2
            exact ⟨_, by first | rfl | (simp [errW_none, errW_some] <;> rfl) | (simp [*, errW_none, errW_some] <;> rfl), by (with_reducible repeat (first | apply Kd.R_alloc | apply Kd.R_drewN | apply Kd.R_drew)); exact HO_7.out, by repeat (first | (with_reducible first | exact HB.out | apply below_alloc | apply pw_below_drewN | apply below_drew1) | exact HB.out)⟩
           ·rw [if_neg c74] at H
            have c74b0 : ((x7_2.length : Int) == t261) = false := beq_eq_false_iff_ne.mpr c74
            have c74b1 : ((x7_2.length : Int) != t261) = true := bne_iff_ne.mpr c74
            simp only [Option.some.injEq, Prod.mk.injEq] at H
            obtain ⟨rfl, rfl⟩ := H
            obtain ⟨Ao77, co77, eo77⟩ := Kd.V_slice HO_0.out
            subst eo77
            obtain ⟨Ao78, co78, eo78⟩ := Kd.R_slice HO_7.out
            subst eo78
            go_wp2
            go_ret2
            exact ⟨_, by first | rfl | (simp [errW_none, errW_some] <;> rfl) | (simp [*, errW_none, errW_some] <;> rfl), by first | exact Kd.R_nil _ _ _ _ _ | exact Kd.N_nil _ _ _ _ _ | exact Kd.V_nil _ _ _ _ _ | exact Kd.Q_nil _ _ _ _ _ | exact Kd.S_nil _ _ _ _ _, by repeat (first | (with_reducible first | exact HB.out | apply below_alloc | apply pw_below_drewN | apply below_drew1) | exact HB.out)⟩
       ·rw [if_neg c10] at H
        exact absurd H (by simp)
      ·rw [if_neg c9] at H
       exact absurd H (by simp)
     ·rw [if_neg c8] at H
      exact absurd H (by simp)
    ·rw [if_neg c7] at H
     exact absurd H (by simp)

end Go.Proofs.Ytdglbiafpofeeaa.POutboxTurned
