-- Written by fprint.py (wip), by way of the printer's functions; where they are turned, by texts of mine.
import Derived.Test.YtbfmndikbbfcdaaPPackReadsx0
namespace Go.Proofs.Ytbfmndikbbfcdaa.PPackReads
open Go.RowKit Go.Proofs.YtbfmndikbbfcdaaW.PrintWords Go.Proofs.YtbfmndikbbfcdaaW.PrintLast Go.Proofs.YtbfmndikbbfcdaaW.PrintMore
attribute [local go_sem] max2_int min2_int max_two min_two max_three min_three max_four min_four   -- for this text's walks alone
set_option linter.unusedVariables false
set_option linter.unusedSimpArgs false

/-! ### pack_width: function 38 -/
def pack_width.l0 : Nat → Int → Int → Option (Int)
  | 0, _, _ => none
  | k + 1, x0, x3 => if x3 < 8 then (if 0 ≤ (wrap64 ((wrap64 (8 * x3)) - 1)) then (if (shr .i64 x0 (wrap64 ((wrap64 (8 * x3)) - 1))) = 0 then (some x3) else (if (shr .i64 x0 (wrap64 ((wrap64 (8 * x3)) - 1))) = (-1) then (some x3) else (pack_width.l0 k x0 (wrap64 (x3 + 1))))) else (none)) else (some x3)
def pack_width.f (k : Nat) (a0 : Int) : Option (Int) := if a0 = 0 then (some 0) else (pack_width.l0 k a0 1)
theorem pack_width.mono_l : ∀ k, (∀ y0 y1, LeO (pack_width.l0 k y0 y1) (pack_width.l0 (k + 1) y0 y1))
  | 0 => fun _ _ r h => by simp [pack_width.l0] at h
  | k + 1 => by
    have ih0 := pack_width.mono_l k
    · intro y0 y1
      unfold pack_width.l0
      repeat' first
      | (with_reducible exact ih0 _ _)
      | (with_reducible exact LeO.refl _)
      | (with_reducible exact LeO.none _)
      | (with_reducible refine LeO.ite ?_ ?_)
      | (with_reducible refine LeO.bind ?_ (fun _ => ?_))
      | exact ih0 _ _
      | exact LeO.none _
      | refine LeO.ite ?_ ?_
      | refine LeO.bind ?_ (fun _ => ?_)
theorem pack_width.mono : ∀ a0 k, LeO (pack_width.f k a0) (pack_width.f (k + 1) a0) := by
  intro a0 k
  have ih0 := pack_width.mono_l k
  unfold pack_width.f
  repeat' first
      | (with_reducible exact ih0 _ _)
      | (with_reducible exact LeO.refl _)
      | (with_reducible exact LeO.none _)
      | (with_reducible refine LeO.ite ?_ ?_)
      | (with_reducible refine LeO.bind ?_ (fun _ => ?_))
      | exact ih0 _ _
      | exact LeO.none _
      | refine LeO.ite ?_ ?_
      | refine LeO.bind ?_ (fun _ => ?_)
set_option maxHeartbeats 8000000 in
set_option maxRecDepth 100000 in
theorem pack_width.calls (k : Nat) (a0 : Int) (r : Int) (w : World) (h : pack_width.f k a0 = some r) :
    Calls Try.prog 38 #[.int .i64 a0] w fun e w' => e = .returned (.int .i64 r) ∧ Drawn0 w w' := by
  have H : (if a0 = 0 then (some 0) else (pack_width.l0 k a0 1)) = some r := h
  clear h
  by_cases c2 : a0 = 0
  · rw [if_pos c2] at H
    have c2b0 : (a0 == 0) = true := beq_iff_eq.mpr c2
    have c2b1 : (a0 != 0) = false := bne_eq_false_iff_eq.mpr c2
    clear c2
    obtain rfl := Option.some.inj H
    go_enter Try.func38, Try.ntmps38
    go_wp2
    go_ret
    exact ⟨by first | rfl | (simp; done) | (simp [*]; done), by repeat (first | exact Drawn0.refl _ | apply Drawn0.step)⟩
  · rw [if_neg c2] at H
    have c2b0 : (a0 == 0) = false := beq_eq_false_iff_ne.mpr c2
    have c2b1 : (a0 != 0) = true := bne_iff_ne.mpr c2
    have H' := Aside0.mk H
    clear H
    go_enter Try.func38, Try.ntmps38
    go_wp2
    go_loopg [3] k (fun kq v3 w' => ∃ (x3_1 : Int), v3 = .int .i64 x3_1 ∧ Aside0 (pack_width.l0 kq a0 x3_1 = some r) ∧ Aside0 (kq ≤ k) ∧ Drawn0 w w')
    case atStart => exact ⟨(1), (by first | rfl | (simp; done) | (simp [*]; done)), H', ⟨Nat.le_refl _⟩, by repeat (first | exact Drawn0.refl _ | apply Drawn0.step)⟩
    case round =>
      clear H'
      try clear c2
      try clear c2b0
      try clear c2b1
      try clear p2
      obtain ⟨x3_1, rfl, HA, HK1, ⟨m1, rfl⟩⟩ := hrel
      cases gk with
      | zero => exact absurd HA.out (by simp [pack_width.l0])
      | succ k1 =>
        have H := HA.out
        clear HA
        simp only [pack_width.l0] at H
        by_cases c3 : x3_1 < 8
        · rw [if_pos c3] at H
          have c3b0 : decide (x3_1 < 8) = true := decide_eq_true c3
          clear c3
          obtain ⟨ji4, hji4⟩ : ∃ j_ : Int, (wrap64 ((wrap64 (8 * x3_1)) - 1)) = j_ := ⟨_, rfl⟩
          replace H : (if 0 ≤ (ji4) then (if (shr .i64 a0 (ji4)) = 0 then (some x3_1) else (if (shr .i64 a0 (ji4)) = (-1) then (some x3_1) else (pack_width.l0 k1 a0 (wrap64 (x3_1 + 1))))) else (none)) = some r := by first | (rw [hji4] at H; exact H) | (simp only [hji4] at H ⊢; exact H)
          have hji4w : (IntKind.i64.wrap ((wrap64 (8 * x3_1)) - 1)) = ji4 := (i64_w _).trans hji4
          by_cases c5 : 0 ≤ (ji4)
          · rw [if_pos c5] at H
            have c5b0 := eq_true c5
            have c5b1 : decide (0 ≤ (ji4)) = true := decide_eq_true c5
            clear c5
            obtain ⟨ji6, hji6⟩ : ∃ j_ : Int, (shr .i64 a0 (ji4)) = j_ := ⟨_, rfl⟩
            replace H : (if (ji6) = 0 then (some x3_1) else (if (ji6) = (-1) then (some x3_1) else (pack_width.l0 k1 a0 (wrap64 (x3_1 + 1))))) = some r := by first | (rw [hji6] at H; exact H) | (simp only [hji6] at H ⊢; exact H)
            have hji6_ : (a0 / 2 ^ min (ji4).toNat 64) = ji6 := hji6
            have hji6z : (ji4) ≤ 64 → (a0 / 2 ^ (ji4).toNat) = ji6 := shr_small hji6
            by_cases c7 : (ji6) = 0
            · rw [if_pos c7] at H
              have c7b0 : ((ji6) == 0) = true := beq_iff_eq.mpr c7
              have c7b1 : ((ji6) != 0) = false := bne_eq_false_iff_eq.mpr c7
              clear c7
              obtain rfl := Option.some.inj H
              go_wp2
              go_ret
              exact ⟨by first | rfl | (simp; done) | (simp only [← hji4, ← hji6] <;> (first | rfl | simp)) | (simp [*]; done), by repeat (first | exact Drawn0.refl _ | apply Drawn0.step)⟩
            · rw [if_neg c7] at H
              have c7b0 : ((ji6) == 0) = false := beq_eq_false_iff_ne.mpr c7
              have c7b1 : ((ji6) != 0) = true := bne_iff_ne.mpr c7
              by_cases c8 : (ji6) = (-1)
              · rw [if_pos c8] at H
                have c8b0 : ((ji6) == (-1)) = true := beq_iff_eq.mpr c8
                have c8b1 : ((ji6) != (-1)) = false := bne_eq_false_iff_eq.mpr c8
                clear c8
                obtain rfl := Option.some.inj H
                go_wp2
                go_ret
                exact ⟨by first | rfl | (simp; done) | (simp only [← hji4, ← hji6] <;> (first | rfl | simp)) | (simp [*]; done), by repeat (first | exact Drawn0.refl _ | apply Drawn0.step)⟩
              · rw [if_neg c8] at H
                have c8b0 : ((ji6) == (-1)) = false := beq_eq_false_iff_ne.mpr c8
                have c8b1 : ((ji6) != (-1)) = true := bne_iff_ne.mpr c8
                have H' := Aside0.mk H
                clear H
                go_wp2
                go_roundg k1
                case measure => have := HK1.out; omega
                case rel => exact ⟨(wrap64 (x3_1 + 1)), (by first | rfl | (simp; done) | (simp [*]; done)), H', ⟨by have := HK1.out; omega⟩, by repeat (first | exact Drawn0.refl _ | apply Drawn0.step)⟩
          · rw [if_neg c5] at H
            exact absurd H (by simp)
        · rw [if_neg c3] at H
          have c3b0 : decide (x3_1 < 8) = false := decide_eq_false c3
          clear c3
          obtain rfl := Option.some.inj H
          go_wp2
          go_ret
          exact ⟨by first | rfl | (simp; done) | (simp [*]; done), by repeat (first | exact Drawn0.refl _ | apply Drawn0.step)⟩

/-! ### pack_TakeNumber: function 19 -/
def pack_TakeNumber.l0 : Nat → Int → Int → List Int → Int → Int → Option (Int × Int × Int)
  | 0, _, _, _, _, _ => none
  | k + 1, x5, x6, x27, x28, x29 => if x29 < x28 then (if 0 ≤ x29 then (if x29 < (x27.length : Int) then (if x29 = 0 then (pack_TakeNumber.l0 k x5 (wrap64 (IntKind.i8.wrap (rd x27 x29))) x27 x28 (wrap64 (x29 + 1))) else (pack_TakeNumber.l0 k x5 (Go.bits .or .i64 (wrap64 (x6 * 256)) (wrap64 (rd x27 x29))) x27 x28 (wrap64 (x29 + 1)))) else (none)) else (none)) else ((pack_width.f k x6).bind fun t107 => (if t107 = x5 then (some (x6, wrap64 (1 + x5), 0)) else (some (0, 0, 2))))
def pack_TakeNumber.f (k : Nat) (l0 : List Int) : Option (Int × Int × Int) := if (l0.length : Int) = 0 then (some (0, 0, 5)) else (if 0 < (l0.length : Int) then (if (wrap64 (rd l0 0)) > 8 then (some (0, 0, 2)) else (if (l0.length : Int) ≤ (wrap64 (rd l0 0)) then (some (0, 0, 5)) else (if 1 ≤ (wrap64 (1 + (wrap64 (rd l0 0)))) then (if (wrap64 (1 + (wrap64 (rd l0 0)))) ≤ (l0.length : Int) then ((some ((l0.take ((wrap64 (1 + (wrap64 (rd l0 0)))) : Int).toNat).drop 1 : List Int)).bind fun y102 => (pack_TakeNumber.l0 k (wrap64 (rd l0 0)) 0 y102 (y102.length : Int) 0)) else (none)) else (none)))) else (none))
theorem pack_TakeNumber.mono_l : ∀ k, (∀ y0 y1 y2 y3 y4, LeO (pack_TakeNumber.l0 k y0 y1 y2 y3 y4) (pack_TakeNumber.l0 (k + 1) y0 y1 y2 y3 y4))
  | 0 => fun _ _ _ _ _ r h => by simp [pack_TakeNumber.l0] at h
  | k + 1 => by
    have ih0 := pack_TakeNumber.mono_l k
    · intro y0 y1 y2 y3 y4
      unfold pack_TakeNumber.l0
      repeat' first
      | (with_reducible exact ih0 _ _ _ _ _)
      | (with_reducible exact pack_width.mono _ _)
      | (with_reducible exact LeO.refl _)
      | (with_reducible exact LeO.none _)
      | (with_reducible refine LeO.ite ?_ ?_)
      | (with_reducible refine LeO.bind ?_ (fun _ => ?_))
      | exact ih0 _ _ _ _ _
      | exact pack_width.mono _ _
      | exact LeO.none _
      | refine LeO.ite ?_ ?_
      | refine LeO.bind ?_ (fun _ => ?_)
theorem pack_TakeNumber.mono : ∀ a0 k, LeO (pack_TakeNumber.f k a0) (pack_TakeNumber.f (k + 1) a0) := by
  intro a0 k
  have ih0 := pack_TakeNumber.mono_l k
  unfold pack_TakeNumber.f
  repeat' first
      | (with_reducible exact ih0 _ _ _ _ _)
      | (with_reducible exact pack_width.mono _ _)
      | (with_reducible exact LeO.refl _)
      | (with_reducible exact LeO.none _)
      | (with_reducible refine LeO.ite ?_ ?_)
      | (with_reducible refine LeO.bind ?_ (fun _ => ?_))
      | exact ih0 _ _ _ _ _
      | exact pack_width.mono _ _
      | exact LeO.none _
      | refine LeO.ite ?_ ?_
      | refine LeO.bind ?_ (fun _ => ?_)
set_option maxHeartbeats 8000000 in
set_option maxRecDepth 100000 in
theorem pack_TakeNumber.calls (k : Nat) (A0 : Option Addr) (c0 : Nat) (l0 : List Int) (r1 : Int) (r2 : Int) (r3 : Int) (w : World) (hr0 : Kd.C (Kd.int .u8) w A0 l0.length l0) (hc0 : l0.length ≤ c0) (h : pack_TakeNumber.f k l0 = some (r1, r2, r3)) :
    Calls Try.prog 19 #[.slice A0 l0.length c0] w fun e w' => e = .returned (.tuple #[.int .i64 r1, .int .i64 r2, .int .i64 r3]) ∧ Drawn0 w w' := by
  have HR0 := Aside0.mk hr0
  have HC0 := Aside0.mk hc0
  clear hr0 hc0
  have H : (if (l0.length : Int) = 0 then (some (0, 0, 5)) else (if 0 < (l0.length : Int) then (if (wrap64 (rd l0 0)) > 8 then (some (0, 0, 2)) else (if (l0.length : Int) ≤ (wrap64 (rd l0 0)) then (some (0, 0, 5)) else (if 1 ≤ (wrap64 (1 + (wrap64 (rd l0 0)))) then (if (wrap64 (1 + (wrap64 (rd l0 0)))) ≤ (l0.length : Int) then ((some ((l0.take ((wrap64 (1 + (wrap64 (rd l0 0)))) : Int).toNat).drop 1 : List Int)).bind fun y102 => (pack_TakeNumber.l0 k (wrap64 (rd l0 0)) 0 y102 (y102.length : Int) 0)) else (none)) else (none)))) else (none))) = some (r1, r2, r3) := h
  clear h
  by_cases c2 : (l0.length : Int) = 0
  · rw [if_pos c2] at H
    have c2b0 : ((l0.length : Int) == 0) = true := beq_iff_eq.mpr c2
    have c2b1 : ((l0.length : Int) != 0) = false := bne_eq_false_iff_eq.mpr c2
    clear c2
    simp only [Option.some.injEq, Prod.mk.injEq] at H
    obtain ⟨rfl, rfl, rfl⟩ := H
    go_enter Try.func19, Try.ntmps19
    go_wp2
    go_ret3
    exact ⟨by first | rfl | (simp; done) | (simp [*]; done), by repeat (first | exact Drawn0.refl _ | apply Drawn0.step)⟩
  · rw [if_neg c2] at H
    have c2b0 : ((l0.length : Int) == 0) = false := beq_eq_false_iff_ne.mpr c2
    have c2b1 : ((l0.length : Int) != 0) = true := bne_iff_ne.mpr c2
    have c2b2 : ¬ (l0 = []) := fun h_ => c2 (by rw [h_]; rfl)
    by_cases c3 : 0 < (l0.length : Int)
    · rw [if_pos c3] at H
      have c3b0 : decide (0 < (l0.length : Int)) = true := decide_eq_true c3
      have c3b1 : decide (0 < l0.length) = true := decide_eq_true (by omega)
      clear c3
      by_cases c4 : (wrap64 (rd l0 0)) > 8
      · rw [if_pos c4] at H
        have c4b0 : decide (8 < (wrap64 (rd l0 0))) = true := decide_eq_true c4
        clear c4
        simp only [Option.some.injEq, Prod.mk.injEq] at H
        obtain ⟨rfl, rfl, rfl⟩ := H
        have p101 : 0 ≤ (0 : Int) := (by omega)
        have q101 : 0 < (l0.length : Int) := of_decide_eq_true (by first | (with_reducible assumption) | assumption)
        obtain ⟨ad101, e101, hx101_0⟩ := Kd.at_int HR0.out 0 p101 q101
        cases e101
        have qi101 : (0 < l0.length) = True := eq_true (by omega)
        (try rw [show ((0 : Int)).toNat = 0 from rfl] at hx101_0)
        (try rw [Addr.add_zero'] at hx101_0)
        replace p101 := eq_true p101
        replace q101 := eq_true q101
        go_enter Try.func19, Try.ntmps19
        go_wp2
        go_ret3
        exact ⟨by first | rfl | (simp; done) | (simp [*]; done), by repeat (first | exact Drawn0.refl _ | apply Drawn0.step)⟩
      · rw [if_neg c4] at H
        have c4b0 : decide (8 < (wrap64 (rd l0 0))) = false := decide_eq_false c4
        clear c4
        by_cases c5 : (l0.length : Int) ≤ (wrap64 (rd l0 0))
        · rw [if_pos c5] at H
          have c5b0 : decide ((l0.length : Int) ≤ (wrap64 (rd l0 0))) = true := decide_eq_true c5
          clear c5
          simp only [Option.some.injEq, Prod.mk.injEq] at H
          obtain ⟨rfl, rfl, rfl⟩ := H
          have p101 : 0 ≤ (0 : Int) := (by omega)
          have q101 : 0 < (l0.length : Int) := of_decide_eq_true (by first | (with_reducible assumption) | assumption)
          obtain ⟨ad101, e101, hx101_0⟩ := Kd.at_int HR0.out 0 p101 q101
          cases e101
          have qi101 : (0 < l0.length) = True := eq_true (by omega)
          (try rw [show ((0 : Int)).toNat = 0 from rfl] at hx101_0)
          (try rw [Addr.add_zero'] at hx101_0)
          replace p101 := eq_true p101
          replace q101 := eq_true q101
          go_enter Try.func19, Try.ntmps19
          go_wp2
          go_ret3
          exact ⟨by first | rfl | (simp; done) | (simp [*]; done), by repeat (first | exact Drawn0.refl _ | apply Drawn0.step)⟩
        · rw [if_neg c5] at H
          have c5b0 : decide ((l0.length : Int) ≤ (wrap64 (rd l0 0))) = false := decide_eq_false c5
          clear c5
          by_cases c6 : 1 ≤ (wrap64 (1 + (wrap64 (rd l0 0))))
          · rw [if_pos c6] at H
            have c6b0 := eq_true c6
            have c6b1 : decide (1 ≤ (wrap64 (1 + (wrap64 (rd l0 0))))) = true := decide_eq_true c6
            by_cases c7 : (wrap64 (1 + (wrap64 (rd l0 0)))) ≤ (l0.length : Int)
            · rw [if_pos c7] at H
              have c7b0 := eq_true c7
              have c7b1 : decide ((wrap64 (1 + (wrap64 (rd l0 0)))) ≤ (l0.length : Int)) = true := decide_eq_true c7
              obtain ⟨y102, hy102⟩ : ∃ y_ : List Int, y_ = ((l0.take ((wrap64 (1 + (wrap64 (rd l0 0)))) : Int).toNat).drop 1) := ⟨_, rfl⟩
              replace H : (pack_TakeNumber.l0 k (wrap64 (rd l0 0)) 0 y102 (y102.length : Int) 0) = some (r1, r2, r3) := by first | (rw [hy102]; with_reducible exact H) | (have H2_ := (Option.bind_some _ _).symm.trans H; rw [hy102]; with_reducible exact H2_) | (have H2_ := (Option.bind_some _ _).symm.trans H; with_reducible exact H2_) | with_reducible exact H | (rw [hy102]; exact H) | exact H
              have Ny102 := Aside0.mk hy102
              clear hy102
              have H' := Aside0.mk H
              clear H
              have p101 : 0 ≤ (0 : Int) := (by omega)
              have q101 : 0 < (l0.length : Int) := of_decide_eq_true (by first | (with_reducible assumption) | assumption)
              obtain ⟨ad101, e101, hx101_0⟩ := Kd.at_int HR0.out 0 p101 q101
              cases e101
              have qi101 : (0 < l0.length) = True := eq_true (by omega)
              (try rw [show ((0 : Int)).toNat = 0 from rfl] at hx101_0)
              (try rw [Addr.add_zero'] at hx101_0)
              replace p101 := eq_true p101
              replace q101 := eq_true q101
              have q8 : ((wrap64 (1 + (wrap64 (rd l0 0)))) : Int) ≤ ((l0.length : Int) : Int) := of_decide_eq_true (by first | (with_reducible assumption) | assumption)
              obtain ⟨i08, hi08, _, hsz8, _⟩ := info_parts info5
              have hroom8 : l0.length ≤ c0 := HC0.out
              have hC8 : Kd.C (Kd.int .u8) _ (some ad101) l0.length l0 := HR0.out
              have ql8 : (1 : Int) ≤ ((wrap64 (1 + (wrap64 (rd l0 0)))) : Int) := of_decide_eq_true (by first | (with_reducible assumption) | assumption)
              have hcut8 := cut_mid (P := Try.prog) 22 5 .i64 .i64 Try.underlying22 hi08 1 hsz8 (some ad101) l0.length c0 1 (wrap64 (1 + (wrap64 (rd l0 0)))) (by omega) ql8 q8 hroom8
              have hr8 := Kd.C_mid (lo := (1 : Int).toNat) (hi := ((wrap64 (1 + (wrap64 (rd l0 0)))) : Int).toNat) (c := c0) hC8 (by omega) (by omega) hroom8
              obtain ⟨A8, hA8⟩ : ∃ A1, A1 = (if c0 = (1 : Int).toNat then (some ad101) else ((some ad101) : Option Addr).map (·.add ((1 : Int).toNat * 1))) := ⟨_, rfl⟩
              obtain ⟨c8, hc8⟩ : ∃ c1, c1 = c0 - (1 : Int).toNat := ⟨_, rfl⟩
              have hy8 : y102.length = ((wrap64 (1 + (wrap64 (rd l0 0)))) : Int).toNat - (1 : Int).toNat := (by rw [Ny102.out, List.length_drop, List.length_take] <;> omega)
              rw [show ((l0).take ((wrap64 (1 + (wrap64 (rd l0 0)))) : Int).toNat).drop (1 : Int).toNat = y102 from Ny102.out.symm] at hr8
              replace hr8 : Kd.C (Kd.int .u8) _ A8 y102.length y102 := (by rw [hA8]; exact hr8)
              rw [← hy8, ← hA8, ← hc8] at hcut8
              have HR105 := Aside0.mk hr8
              have HC105 := Aside0.mk (show y102.length ≤ c8 from by rw [hy8, hc8]; exact Nat.sub_le_sub_right (Nat.le_trans (by omega) hroom8) _)
              clear hr8 hC8 hroom8 hi08 hsz8 hc8
              have KY8 := Aside0.mk hy8
              have KA8 := Aside0.mk hA8
              clear hy8 hA8
              replace q8 := eq_true q8
              go_enter Try.func19, Try.ntmps19
              go_wp2
              go_loopg [6, 29] k (fun kq v6 v29 w' => ∃ (x6_1 : Int) (x29_1 : Int), v6 = .int .i64 x6_1 ∧ v29 = .int .i64 x29_1 ∧ Aside0 (pack_TakeNumber.l0 kq (wrap64 (rd l0 0)) x6_1 y102 (y102.length : Int) x29_1 = some (r1, r2, r3)) ∧ Aside0 (kq ≤ k) ∧ Drawn0 w w')
              case atStart => exact ⟨(0), (0), (by first | rfl | (simp; done) | (simp [*]; done)), (by first | rfl | (simp; done) | (simp [*]; done)), H', ⟨Nat.le_refl _⟩, by repeat (first | exact Drawn0.refl _ | apply Drawn0.step)⟩
              case round =>
                clear H'
                try clear c1
                try clear p1
                try clear q1
                try clear hx1
                try clear qi1
                try clear c2
                try clear c2b0
                try clear c2b1
                try clear c2b2
                try clear p2
                try clear c3
                try clear c3b0
                try clear c3b1
                try clear c4
                try clear c4b0
                try clear c5
                try clear c5b0
                try clear c6
                try clear c6b0
                try clear c6b1
                try clear p6
                try clear c7
                try clear c7b0
                try clear c7b1
                try clear c8
                try clear q8
                try clear hx101_0
                try clear p101
                try clear q101
                try clear q8
                obtain ⟨x6_1, x29_1, rfl, rfl, HA, HK1, ⟨m1, rfl⟩⟩ := hrel
                cases gk with
                | zero => exact absurd HA.out (by simp [pack_TakeNumber.l0])
                | succ k1 =>
                  have H := HA.out
                  clear HA
                  simp only [pack_TakeNumber.l0] at H
                  by_cases c9 : x29_1 < (y102.length : Int)
                  · rw [if_pos c9] at H
                    have c9b0 : decide (x29_1 < (y102.length : Int)) = true := decide_eq_true c9
                    clear c9
                    by_cases c10 : 0 ≤ x29_1
                    · rw [if_pos c10] at H
                      have c10b0 : decide (0 ≤ x29_1) = true := decide_eq_true c10
                      clear c10
                      by_cases c11 : x29_1 < (y102.length : Int)
                      · rw [if_pos c11] at H
                        have c11b0 : decide (x29_1 < (y102.length : Int)) = true := decide_eq_true c11
                        clear c11
                        by_cases c12 : x29_1 = 0
                        · rw [if_pos c12] at H
                          have c12b0 : (x29_1 == 0) = true := beq_iff_eq.mpr c12
                          have c12b1 : (x29_1 != 0) = false := bne_eq_false_iff_eq.mpr c12
                          clear c12
                          have H' := Aside0.mk H
                          clear H
                          have p106 : 0 ≤ (x29_1 : Int) := of_decide_eq_true (by first | (with_reducible assumption) | assumption)
                          have q106 : x29_1 < (y102.length : Int) := of_decide_eq_true (by first | (with_reducible assumption) | assumption)
                          obtain ⟨ad106, e106, hx106_0⟩ := Kd.at_int HR105.out x29_1 p106 q106
                          cases e106
                          replace p106 := eq_true p106
                          replace q106 := eq_true q106
                          go_wp2
                          go_roundg k1
                          case measure => have := HK1.out; omega
                          case rel => exact ⟨(wrap64 (IntKind.i8.wrap (rd y102 x29_1))), (wrap64 (x29_1 + 1)), (by first | rfl | (simp; done) | (simp [*]; done)), (by first | rfl | (simp; done) | (simp [*]; done)), H', ⟨by have := HK1.out; omega⟩, by repeat (first | exact Drawn0.refl _ | apply Drawn0.step)⟩
                        · rw [if_neg c12] at H
                          have c12b0 : (x29_1 == 0) = false := beq_eq_false_iff_ne.mpr c12
                          have c12b1 : (x29_1 != 0) = true := bne_iff_ne.mpr c12
                          have H' := Aside0.mk H
                          clear H
                          have p106 : 0 ≤ (x29_1 : Int) := of_decide_eq_true (by first | (with_reducible assumption) | assumption)
                          have q106 : x29_1 < (y102.length : Int) := of_decide_eq_true (by first | (with_reducible assumption) | assumption)
                          obtain ⟨ad106, e106, hx106_0⟩ := Kd.at_int HR105.out x29_1 p106 q106
                          cases e106
                          replace p106 := eq_true p106
                          replace q106 := eq_true q106
                          go_wp2
                          go_roundg k1
                          case measure => have := HK1.out; omega
                          case rel => exact ⟨(Go.bits .or .i64 (wrap64 (x6_1 * 256)) (wrap64 (rd y102 x29_1))), (wrap64 (x29_1 + 1)), (by first | rfl | (simp; done) | (simp [*]; done)), (by first | rfl | (simp; done) | (simp [*]; done)), H', ⟨by have := HK1.out; omega⟩, by repeat (first | exact Drawn0.refl _ | apply Drawn0.step)⟩
                      · rw [if_neg c11] at H
                        exact absurd H (by simp)
                    · rw [if_neg c10] at H
                      exact absurd H (by simp)
                  · rw [if_neg c9] at H
                    have c9b0 : decide (x29_1 < (y102.length : Int)) = false := decide_eq_false c9
                    clear c9
                    replace H := Option.bind_eq_some_iff.mp H
                    obtain ⟨t107, A130, H⟩ := H
                    replace H : (if t107 = (wrap64 (rd l0 0)) then (some (x6_1, wrap64 (1 + (wrap64 (rd l0 0))), 0)) else (some (0, 0, 2))) = some (r1, r2, r3) := H
                    have A13 := Aside0.mk A130
                    clear A130
                    by_cases c14 : t107 = (wrap64 (rd l0 0))
                    · rw [if_pos c14] at H
                      have c14b0 : (t107 == (wrap64 (rd l0 0))) = true := beq_iff_eq.mpr c14
                      have c14b1 : (t107 != (wrap64 (rd l0 0))) = false := bne_eq_false_iff_eq.mpr c14
                      clear c14
                      simp only [Option.some.injEq, Prod.mk.injEq] at H
                      obtain ⟨rfl, rfl, rfl⟩ := H
                      go_wp2_with (first | ((with_reducible refine gate_callee (f := 38) rfl ?_); refine goesL_ (some 46) rfl rfl Try.func38 (by kernel_rfl) rfl #[.int .i64 x6_1] rfl (by (try simp only [List.map_toArray, List.map_cons, List.map_nil]); first | done | rfl | (simp only [List.length_drop, List.length_take]; rfl)) ?_; (with_reducible refine (pack_width.calls k1 x6_1 t107 _ A13.out).mono ?_); rintro e w' ⟨rfl, ⟨nd, rfl⟩⟩; refine ⟨_, rfl, ?_⟩))
                      go_ret3
                      exact ⟨by first | rfl | (simp; done) | (simp [*]; done), by repeat (first | exact Drawn0.refl _ | apply Drawn0.step)⟩
                    · rw [if_neg c14] at H
                      have c14b0 : (t107 == (wrap64 (rd l0 0))) = false := beq_eq_false_iff_ne.mpr c14
                      have c14b1 : (t107 != (wrap64 (rd l0 0))) = true := bne_iff_ne.mpr c14
                      simp only [Option.some.injEq, Prod.mk.injEq] at H
                      obtain ⟨rfl, rfl, rfl⟩ := H
                      go_wp2_with (first | ((with_reducible refine gate_callee (f := 38) rfl ?_); refine goesL_ (some 46) rfl rfl Try.func38 (by kernel_rfl) rfl #[.int .i64 x6_1] rfl (by (try simp only [List.map_toArray, List.map_cons, List.map_nil]); first | done | rfl | (simp only [List.length_drop, List.length_take]; rfl)) ?_; (with_reducible refine (pack_width.calls k1 x6_1 t107 _ A13.out).mono ?_); rintro e w' ⟨rfl, ⟨nd, rfl⟩⟩; refine ⟨_, rfl, ?_⟩))
                      go_ret3
                      exact ⟨by first | rfl | (simp; done) | (simp [*]; done), by repeat (first | exact Drawn0.refl _ | apply Drawn0.step)⟩
            · rw [if_neg c7] at H
              exact absurd H (by simp)
          · rw [if_neg c6] at H
            exact absurd H (by simp)
    · rw [if_neg c3] at H
      exact absurd H (by simp)

/-! ### pack_TakeText: function 27 -/
def pack_TakeText.f (k : Nat) (l0 : List Int) : Option (ByteArray × Int × Int) := (pack_TakeNumber.f k l0).bind fun bt108 => (if bt108.2.2 = 0 then (if bt108.1 < 0 then (some ((⟨#[]⟩ : ByteArray), 0, 2)) else (if bt108.1 > (wrap64 ((l0.length : Int) - bt108.2.1)) then (some ((⟨#[]⟩ : ByteArray), 0, 5)) else (if 0 ≤ bt108.2.1 then (if bt108.2.1 ≤ (wrap64 (bt108.2.1 + bt108.1)) then (if (wrap64 (bt108.2.1 + bt108.1)) ≤ (l0.length : Int) then (some (strOfNums ((l0.take ((wrap64 (bt108.2.1 + bt108.1)) : Int).toNat).drop (bt108.2.1 : Int).toNat), wrap64 (bt108.2.1 + bt108.1), 0)) else (none)) else (none)) else (none)))) else (some ((⟨#[]⟩ : ByteArray), 0, bt108.2.2)))
theorem pack_TakeText.mono : ∀ a0 k, LeO (pack_TakeText.f k a0) (pack_TakeText.f (k + 1) a0) := by
  intro a0 k
  unfold pack_TakeText.f
  repeat' first
      | (with_reducible exact pack_TakeNumber.mono _ _)
      | (with_reducible exact LeO.refl _)
      | (with_reducible exact LeO.none _)
      | (with_reducible refine LeO.ite ?_ ?_)
      | (with_reducible refine LeO.bind ?_ (fun _ => ?_))
      | exact pack_TakeNumber.mono _ _
      | exact LeO.none _
      | refine LeO.ite ?_ ?_
      | refine LeO.bind ?_ (fun _ => ?_)
set_option maxHeartbeats 8000000 in
set_option maxRecDepth 100000 in
theorem pack_TakeText.calls (k : Nat) (A0 : Option Addr) (c0 : Nat) (l0 : List Int) (r1 : ByteArray) (r2 : Int) (r3 : Int) (w : World) (hr0 : Kd.C (Kd.int .u8) w A0 l0.length l0) (hc0 : l0.length ≤ c0) (h : pack_TakeText.f k l0 = some (r1, r2, r3)) :
    Calls Try.prog 27 #[.slice A0 l0.length c0] w fun e w' => e = .returned (.tuple #[.string r1, .int .i64 r2, .int .i64 r3]) ∧ Drawn0 w w' := by
  have HR0 := Aside0.mk hr0
  have HC0 := Aside0.mk hc0
  clear hr0 hc0
  have H : ((pack_TakeNumber.f k l0).bind fun bt108 => (if bt108.2.2 = 0 then (if bt108.1 < 0 then (some ((⟨#[]⟩ : ByteArray), 0, 2)) else (if bt108.1 > (wrap64 ((l0.length : Int) - bt108.2.1)) then (some ((⟨#[]⟩ : ByteArray), 0, 5)) else (if 0 ≤ bt108.2.1 then (if bt108.2.1 ≤ (wrap64 (bt108.2.1 + bt108.1)) then (if (wrap64 (bt108.2.1 + bt108.1)) ≤ (l0.length : Int) then (some (strOfNums ((l0.take ((wrap64 (bt108.2.1 + bt108.1)) : Int).toNat).drop (bt108.2.1 : Int).toNat), wrap64 (bt108.2.1 + bt108.1), 0)) else (none)) else (none)) else (none)))) else (some ((⟨#[]⟩ : ByteArray), 0, bt108.2.2)))) = some (r1, r2, r3) := h
  clear h
  replace H := Option.bind_eq_some_iff.mp H
  obtain ⟨⟨t108, t109, t110⟩, A20, H⟩ := H
  replace H : (if t110 = 0 then (if t108 < 0 then (some ((⟨#[]⟩ : ByteArray), 0, 2)) else (if t108 > (wrap64 ((l0.length : Int) - t109)) then (some ((⟨#[]⟩ : ByteArray), 0, 5)) else (if 0 ≤ t109 then (if t109 ≤ (wrap64 (t109 + t108)) then (if (wrap64 (t109 + t108)) ≤ (l0.length : Int) then (some (strOfNums ((l0.take ((wrap64 (t109 + t108)) : Int).toNat).drop (t109 : Int).toNat), wrap64 (t109 + t108), 0)) else (none)) else (none)) else (none)))) else (some ((⟨#[]⟩ : ByteArray), 0, t110))) = some (r1, r2, r3) := H
  have A2 := Aside0.mk A20
  clear A20
  by_cases c3 : t110 = 0
  · rw [if_pos c3] at H
    have c3b0 : (t110 == 0) = true := beq_iff_eq.mpr c3
    have c3b1 : (t110 != 0) = false := bne_eq_false_iff_eq.mpr c3
    clear c3
    by_cases c4 : t108 < 0
    · rw [if_pos c4] at H
      have c4b0 : decide (t108 < 0) = true := decide_eq_true c4
      clear c4
      simp only [Option.some.injEq, Prod.mk.injEq] at H
      obtain ⟨rfl, rfl, rfl⟩ := H
      go_enter Try.func27, Try.ntmps27
      go_wp2_with (first | ((with_reducible refine gate_callee (f := 19) rfl ?_); refine goesL_ (some 11) rfl rfl Try.func19 (by kernel_rfl) rfl #[.slice A0 l0.length c0] rfl (by (try simp only [List.map_toArray, List.map_cons, List.map_nil]); first | done | rfl | (simp only [List.length_drop, List.length_take]; rfl)) ?_; (with_reducible refine (pack_TakeNumber.calls k _ _ l0 t108 t109 t110 _ ?side1 ?side2 A2.out).mono ?_); (case side1 => repeat (first | exact HR0.out | (with_reducible refine Kd.C_alloc ?_ _) | (with_reducible refine Kd.C_drewN ?_ _) | (with_reducible refine Kd.C_drew ?_))); (case side2 => exact HC0.out); rintro e w' ⟨rfl, ⟨nd, rfl⟩⟩; refine ⟨_, rfl, ?_⟩))
      go_ret3
      exact ⟨by first | rfl | (simp; done) | (simp [*]; done), by repeat (first | exact Drawn0.refl _ | apply Drawn0.step)⟩
    · rw [if_neg c4] at H
      have c4b0 : decide (t108 < 0) = false := decide_eq_false c4
      clear c4
      by_cases c5 : t108 > (wrap64 ((l0.length : Int) - t109))
      · rw [if_pos c5] at H
        have c5b0 : decide ((wrap64 ((l0.length : Int) - t109)) < t108) = true := decide_eq_true c5
        clear c5
        simp only [Option.some.injEq, Prod.mk.injEq] at H
        obtain ⟨rfl, rfl, rfl⟩ := H
        go_enter Try.func27, Try.ntmps27
        go_wp2_with (first | ((with_reducible refine gate_callee (f := 19) rfl ?_); refine goesL_ (some 11) rfl rfl Try.func19 (by kernel_rfl) rfl #[.slice A0 l0.length c0] rfl (by (try simp only [List.map_toArray, List.map_cons, List.map_nil]); first | done | rfl | (simp only [List.length_drop, List.length_take]; rfl)) ?_; (with_reducible refine (pack_TakeNumber.calls k _ _ l0 t108 t109 t110 _ ?side1 ?side2 A2.out).mono ?_); (case side1 => repeat (first | exact HR0.out | (with_reducible refine Kd.C_alloc ?_ _) | (with_reducible refine Kd.C_drewN ?_ _) | (with_reducible refine Kd.C_drew ?_))); (case side2 => exact HC0.out); rintro e w' ⟨rfl, ⟨nd, rfl⟩⟩; refine ⟨_, rfl, ?_⟩))
        go_ret3
        exact ⟨by first | rfl | (simp; done) | (simp [*]; done), by repeat (first | exact Drawn0.refl _ | apply Drawn0.step)⟩
      · rw [if_neg c5] at H
        have c5b0 : decide ((wrap64 ((l0.length : Int) - t109)) < t108) = false := decide_eq_false c5
        clear c5
        by_cases c6 : 0 ≤ t109
        · rw [if_pos c6] at H
          have c6b0 := eq_true c6
          have c6b1 : decide (0 ≤ t109) = true := decide_eq_true c6
          clear c6
          by_cases c7 : t109 ≤ (wrap64 (t109 + t108))
          · rw [if_pos c7] at H
            have c7b0 := eq_true c7
            have c7b1 : decide (t109 ≤ (wrap64 (t109 + t108))) = true := decide_eq_true c7
            by_cases c8 : (wrap64 (t109 + t108)) ≤ (l0.length : Int)
            · rw [if_pos c8] at H
              have c8b0 := eq_true c8
              have c8b1 : decide ((wrap64 (t109 + t108)) ≤ (l0.length : Int)) = true := decide_eq_true c8
              obtain ⟨y111, hy111⟩ : ∃ y_ : List Int, y_ = ((l0.take ((wrap64 (t109 + t108)) : Int).toNat).drop (t109 : Int).toNat) := ⟨_, rfl⟩
              replace H : (some (strOfNums y111, wrap64 (t109 + t108), 0)) = some (r1, r2, r3) := by first | (rw [hy111]; with_reducible exact H) | (have H2_ := (Option.bind_some _ _).symm.trans H; rw [hy111]; with_reducible exact H2_) | (have H2_ := (Option.bind_some _ _).symm.trans H; with_reducible exact H2_) | with_reducible exact H | (rw [hy111]; exact H) | exact H
              have Ny111 := Aside0.mk hy111
              clear hy111
              simp only [Option.some.injEq, Prod.mk.injEq] at H
              obtain ⟨rfl, rfl, rfl⟩ := H
              go_enter Try.func27, Try.ntmps27
              go_wp2_with (first | ((with_reducible refine gate_callee (f := 19) rfl ?_); refine goesL_ (some 11) rfl rfl Try.func19 (by kernel_rfl) rfl #[.slice A0 l0.length c0] rfl (by (try simp only [List.map_toArray, List.map_cons, List.map_nil]); first | done | rfl | (simp only [List.length_drop, List.length_take]; rfl)) ?_; (with_reducible refine (pack_TakeNumber.calls k _ _ l0 t108 t109 t110 _ ?side1 ?side2 A2.out).mono ?_); (case side1 => repeat (first | exact HR0.out | (with_reducible refine Kd.C_alloc ?_ _) | (with_reducible refine Kd.C_drewN ?_ _) | (with_reducible refine Kd.C_drew ?_))); (case side2 => exact HC0.out); rintro e w' ⟨rfl, ⟨nd, rfl⟩⟩; refine ⟨_, rfl, ?_⟩; have q9 : ((wrap64 (t109 + t108)) : Int) ≤ ((l0.length : Int) : Int) := of_decide_eq_true (by first | (with_reducible assumption) | assumption); obtain ⟨i09, hi09, _, hsz9, _⟩ := info_parts info5; have hroom9 : l0.length ≤ c0 := HC0.out; have hC9 : Kd.C (Kd.int .u8) _ A0 l0.length l0 := HR0.out; have ql9 : (t109 : Int) ≤ ((wrap64 (t109 + t108)) : Int) := of_decide_eq_true (by first | (with_reducible assumption) | assumption); have q09 : (0 : Int) ≤ (t109 : Int) := of_decide_eq_true (by first | (with_reducible assumption) | assumption); have hcut9 := cut_mid (P := Try.prog) 22 5 .i64 .i64 Try.underlying22 hi09 1 hsz9 A0 l0.length c0 t109 (wrap64 (t109 + t108)) q09 ql9 q9 hroom9; have hr9 := Kd.C_mid (lo := (t109 : Int).toNat) (hi := ((wrap64 (t109 + t108)) : Int).toNat) (c := c0) hC9 (by omega) (by omega) hroom9; obtain ⟨A9, hA9⟩ : ∃ A1, A1 = (if c0 = (t109 : Int).toNat then A0 else (A0 : Option Addr).map (·.add ((t109 : Int).toNat * 1))) := ⟨_, rfl⟩; obtain ⟨c9, hc9⟩ : ∃ c1, c1 = c0 - (t109 : Int).toNat := ⟨_, rfl⟩; have hy9 : y111.length = ((wrap64 (t109 + t108)) : Int).toNat - (t109 : Int).toNat := (by rw [Ny111.out, List.length_drop, List.length_take] <;> omega); rw [show ((l0).take ((wrap64 (t109 + t108)) : Int).toNat).drop (t109 : Int).toNat = y111 from Ny111.out.symm] at hr9; replace hr9 : Kd.C (Kd.int .u8) _ A9 y111.length y111 := (by rw [hA9]; exact hr9); rw [← hy9, ← hA9, ← hc9] at hcut9; have HR114 := Aside0.mk hr9; have HC114 := Aside0.mk (show y111.length ≤ c9 from by rw [hy9, hc9]; exact Nat.sub_le_sub_right (Nat.le_trans (by omega) hroom9) _); clear hr9 hC9 hroom9 hi09 hsz9 hc9; have KY9 := Aside0.mk hy9; have KA9 := Aside0.mk hA9; clear hy9 hA9; replace q9 := eq_true q9; have hcv10 := Kd.C_string (P := Try.prog) (A := A9) (c := c9) Try.underlying22 Try.underlying5 Try.underlying9 HR114.out; have hcvd10 := fun m_ => Kd.C_string (P := Try.prog) (A := A9) (c := c9) Try.underlying22 Try.underlying5 Try.underlying9 (Kd.C_drewN (HR114.out) m_)))
              go_ret3
              exact ⟨by first | rfl | (simp; done) | (simp [*]; done), by repeat (first | exact Drawn0.refl _ | apply Drawn0.step)⟩
            · rw [if_neg c8] at H
              exact absurd H (by simp)
          · rw [if_neg c7] at H
            exact absurd H (by simp)
        · rw [if_neg c6] at H
          exact absurd H (by simp)
  · rw [if_neg c3] at H
    have c3b0 : (t110 == 0) = false := beq_eq_false_iff_ne.mpr c3
    have c3b1 : (t110 != 0) = true := bne_iff_ne.mpr c3
    simp only [Option.some.injEq, Prod.mk.injEq] at H
    obtain ⟨rfl, rfl, rfl⟩ := H
    go_enter Try.func27, Try.ntmps27
    go_wp2_with (first | ((with_reducible refine gate_callee (f := 19) rfl ?_); refine goesL_ (some 11) rfl rfl Try.func19 (by kernel_rfl) rfl #[.slice A0 l0.length c0] rfl (by (try simp only [List.map_toArray, List.map_cons, List.map_nil]); first | done | rfl | (simp only [List.length_drop, List.length_take]; rfl)) ?_; (with_reducible refine (pack_TakeNumber.calls k _ _ l0 t108 t109 t110 _ ?side1 ?side2 A2.out).mono ?_); (case side1 => repeat (first | exact HR0.out | (with_reducible refine Kd.C_alloc ?_ _) | (with_reducible refine Kd.C_drewN ?_ _) | (with_reducible refine Kd.C_drew ?_))); (case side2 => exact HC0.out); rintro e w' ⟨rfl, ⟨nd, rfl⟩⟩; refine ⟨_, rfl, ?_⟩))
    go_ret3
    exact ⟨by first | rfl | (simp; done) | (simp [*]; done), by repeat (first | exact Drawn0.refl _ | apply Drawn0.step)⟩

end Go.Proofs.Ytbfmndikbbfcdaa.PPackReads
