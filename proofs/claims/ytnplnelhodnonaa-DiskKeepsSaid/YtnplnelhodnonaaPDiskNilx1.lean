-- PRINTED BY print.sh 35421559b90ae4d0a3588c463048766b98c2df88dd9212a6774a882060cdf62d: not written by this session
import Derived.Test.YtnplnelhodnonaaPDiskNilx0
namespace Go.Proofs.Ytnplnelhodnonaa.PDiskNil
open Go.RowKit Go.Proofs.YtnplnelhodnonaaW.PrintWords Go.Proofs.YtnplnelhodnonaaW.PrintLast Go.Proofs.YtnplnelhodnonaaW.PrintMore
attribute [local go_sem] max2_int min2_int max_two min_two max_three min_three max_four min_four   -- for this text's walks alone
set_option linter.unusedVariables false
set_option linter.unusedSimpArgs false

-- NOT PRINTED: function 12 (disk_New)

-- NOT PRINTED: function 27 (disk_Disk_Used)

-- NOT PRINTED: function 51 (disk_Disk_burn)

-- NOT PRINTED: function 23 (disk_Disk_Append)

-- NOT PRINTED: function 10 (tumbrellaw14_awake)

/-! ### tumbrellaw14_Few: function 11 -/
def tumbrellaw14_Few.l0 : Nat → List (S33) → Int → Int → Int → Option (Bool)
  | 0, _, _, _, _ => none
  | k + 1, x0, x3, x6, x7 => if x7 < x6 then (if 0 ≤ x7 then (if x7 < (x0.length : Int) then (if x7 ≥ 150 then (some false) else (if (wrap64 (x3 + (((rd_T33 x0 x7).f4).length : Int))) > 50000 then (some false) else (if (((rd_T33 x0 x7).f5).length : Int) > 100 then (some false) else (tumbrellaw14_Few.l0 k x0 (wrap64 (x3 + (((rd_T33 x0 x7).f4).length : Int))) x6 (wrap64 (x7 + 1)))))) else (none)) else (none)) else (some true)
def tumbrellaw14_Few.f (k : Nat) (l0 : List (S33)) : Option (Bool) := tumbrellaw14_Few.l0 k l0 0 (l0.length : Int) 0
theorem tumbrellaw14_Few.mono_l : ∀ k, (∀ y0 y1 y2 y3, LeO (tumbrellaw14_Few.l0 k y0 y1 y2 y3) (tumbrellaw14_Few.l0 (k + 1) y0 y1 y2 y3))
  | 0 => fun _ _ _ _ r h => by simp [tumbrellaw14_Few.l0] at h
  | k + 1 => by
    have ih0 := tumbrellaw14_Few.mono_l k
    · intro y0 y1 y2 y3
      unfold tumbrellaw14_Few.l0
      repeat' first
      | (with_reducible exact ih0 _ _ _ _)
      | (with_reducible exact LeO.refl _)
      | (with_reducible exact LeO.none _)
      | (with_reducible refine LeO.ite ?_ ?_)
      | (with_reducible refine LeO.bind ?_ (fun _ => ?_))
      | exact ih0 _ _ _ _
      | exact LeO.none _
      | refine LeO.ite ?_ ?_
      | refine LeO.bind ?_ (fun _ => ?_)
theorem tumbrellaw14_Few.mono : ∀ a0 k, LeO (tumbrellaw14_Few.f k a0) (tumbrellaw14_Few.f (k + 1) a0) := by
  intro a0 k
  have ih0 := tumbrellaw14_Few.mono_l k
  unfold tumbrellaw14_Few.f
  repeat' first
      | (with_reducible exact ih0 _ _ _ _)
      | (with_reducible exact LeO.refl _)
      | (with_reducible exact LeO.none _)
      | (with_reducible refine LeO.ite ?_ ?_)
      | (with_reducible refine LeO.bind ?_ (fun _ => ?_))
      | exact ih0 _ _ _ _
      | exact LeO.none _
      | refine LeO.ite ?_ ?_
      | refine LeO.bind ?_ (fun _ => ?_)
set_option maxHeartbeats 8000000 in
set_option maxRecDepth 100000 in
theorem tumbrellaw14_Few.calls (k : Nat) (A0 : Option Addr) (c0 : Nat) (l0 : List (S33)) (r : Bool) (w : World) (hr0 : Kd.C k33 w A0 l0.length l0) (hc0 : l0.length ≤ c0) (h : tumbrellaw14_Few.f k l0 = some r) :
    Calls Try.prog 11 #[.slice A0 l0.length c0] w fun e w' => e = .returned (.bool r) ∧ Drawn0 w w' := by
  have HR0 := Aside0.mk hr0
  have HC0 := Aside0.mk hc0
  clear hr0 hc0
  have H : (tumbrellaw14_Few.l0 k l0 0 (l0.length : Int) 0) = some r := h
  clear h
  have H' := Aside0.mk H
  clear H
  go_enter Try.func11, Try.ntmps11
  go_wp2
  go_loopg [3, 7] k (fun kq v3 v7 w' => ∃ (x3_1 : Int) (x7_1 : Int), v3 = .int .i64 x3_1 ∧ v7 = .int .i64 x7_1 ∧ Aside0 (tumbrellaw14_Few.l0 kq l0 x3_1 (l0.length : Int) x7_1 = some r) ∧ Aside0 (kq ≤ k) ∧ Drawn0 w w')
  case atStart => exact ⟨(0), (0), (by first | rfl | (simp; done) | (simp [*]; done)), (by first | rfl | (simp; done) | (simp [*]; done)), H', ⟨Nat.le_refl _⟩, by repeat (first | exact Drawn0.refl _ | apply Drawn0.step)⟩
  case round =>
    clear H'
    try clear c1
    obtain ⟨x3_1, x7_1, rfl, rfl, HA, HK1, ⟨m1, rfl⟩⟩ := hrel
    cases gk with
    | zero => exact absurd HA.out (by simp [tumbrellaw14_Few.l0])
    | succ k1 =>
      have H := HA.out
      clear HA
      simp only [tumbrellaw14_Few.l0] at H
      by_cases c2 : x7_1 < (l0.length : Int)
      · rw [if_pos c2] at H
        have c2b0 : decide (x7_1 < (l0.length : Int)) = true := decide_eq_true c2
        clear c2
        by_cases c3 : 0 ≤ x7_1
        · rw [if_pos c3] at H
          have c3b0 : decide (0 ≤ x7_1) = true := decide_eq_true c3
          clear c3
          by_cases c4 : x7_1 < (l0.length : Int)
          · rw [if_pos c4] at H
            have c4b0 : decide (x7_1 < (l0.length : Int)) = true := decide_eq_true c4
            clear c4
            by_cases c5 : x7_1 ≥ 150
            · rw [if_pos c5] at H
              have c5b0 : decide (150 ≤ x7_1) = true := decide_eq_true c5
              clear c5
              obtain rfl := Option.some.inj H
              have p101 : 0 ≤ (x7_1 : Int) := of_decide_eq_true (by first | (with_reducible assumption) | assumption)
              have q101 : x7_1 < (l0.length : Int) := of_decide_eq_true (by first | (with_reducible assumption) | assumption)
              obtain ⟨ad101, A101_4, c101_4, A101_5, c101_5, e101, hx101_0, hx101_1, hx101_2, hx101_3, hx101_4, hx101_5, hl101_4, hi101_4, hl101_5, hi101_5⟩ := at_T33 HR0.out x7_1 p101 q101
              cases e101
              have HR101_4 := Aside0.mk hi101_4
              have HC101_4 := Aside0.mk hl101_4
              clear hi101_4 hl101_4
              have HR101_5 := Aside0.mk hi101_5
              have HC101_5 := Aside0.mk hl101_5
              clear hi101_5 hl101_5
              replace p101 := eq_true p101
              replace q101 := eq_true q101
              go_wp2
              go_ret
              exact ⟨by first | rfl | (simp; done) | (simp [*]; done), by repeat (first | exact Drawn0.refl _ | apply Drawn0.step)⟩
            · rw [if_neg c5] at H
              have c5b0 : decide (150 ≤ x7_1) = false := decide_eq_false c5
              clear c5
              by_cases c6 : (wrap64 (x3_1 + (((rd_T33 l0 x7_1).f4).length : Int))) > 50000
              · rw [if_pos c6] at H
                have c6b0 : decide (50000 < (wrap64 (x3_1 + (((rd_T33 l0 x7_1).f4).length : Int)))) = true := decide_eq_true c6
                clear c6
                obtain rfl := Option.some.inj H
                have p101 : 0 ≤ (x7_1 : Int) := of_decide_eq_true (by first | (with_reducible assumption) | assumption)
                have q101 : x7_1 < (l0.length : Int) := of_decide_eq_true (by first | (with_reducible assumption) | assumption)
                obtain ⟨ad101, A101_4, c101_4, A101_5, c101_5, e101, hx101_0, hx101_1, hx101_2, hx101_3, hx101_4, hx101_5, hl101_4, hi101_4, hl101_5, hi101_5⟩ := at_T33 HR0.out x7_1 p101 q101
                cases e101
                have HR101_4 := Aside0.mk hi101_4
                have HC101_4 := Aside0.mk hl101_4
                clear hi101_4 hl101_4
                have HR101_5 := Aside0.mk hi101_5
                have HC101_5 := Aside0.mk hl101_5
                clear hi101_5 hl101_5
                replace p101 := eq_true p101
                replace q101 := eq_true q101
                go_wp2
                go_ret
                exact ⟨by first | rfl | (simp; done) | (simp [*]; done), by repeat (first | exact Drawn0.refl _ | apply Drawn0.step)⟩
              · rw [if_neg c6] at H
                have c6b0 : decide (50000 < (wrap64 (x3_1 + (((rd_T33 l0 x7_1).f4).length : Int)))) = false := decide_eq_false c6
                clear c6
                by_cases c7 : (((rd_T33 l0 x7_1).f5).length : Int) > 100
                · rw [if_pos c7] at H
                  have c7b0 : decide (100 < (((rd_T33 l0 x7_1).f5).length : Int)) = true := decide_eq_true c7
                  have c7b1 : decide (100 < ((rd_T33 l0 x7_1).f5).length) = true := decide_eq_true (by omega)
                  clear c7
                  obtain rfl := Option.some.inj H
                  have p101 : 0 ≤ (x7_1 : Int) := of_decide_eq_true (by first | (with_reducible assumption) | assumption)
                  have q101 : x7_1 < (l0.length : Int) := of_decide_eq_true (by first | (with_reducible assumption) | assumption)
                  obtain ⟨ad101, A101_4, c101_4, A101_5, c101_5, e101, hx101_0, hx101_1, hx101_2, hx101_3, hx101_4, hx101_5, hl101_4, hi101_4, hl101_5, hi101_5⟩ := at_T33 HR0.out x7_1 p101 q101
                  cases e101
                  have HR101_4 := Aside0.mk hi101_4
                  have HC101_4 := Aside0.mk hl101_4
                  clear hi101_4 hl101_4
                  have HR101_5 := Aside0.mk hi101_5
                  have HC101_5 := Aside0.mk hl101_5
                  clear hi101_5 hl101_5
                  replace p101 := eq_true p101
                  replace q101 := eq_true q101
                  have p102 : 0 ≤ (x7_1 : Int) := of_decide_eq_true (by first | (with_reducible assumption) | assumption)
                  have q102 : x7_1 < (l0.length : Int) := of_decide_eq_true (by first | (with_reducible assumption) | assumption)
                  obtain ⟨ad102, A102_4, c102_4, A102_5, c102_5, e102, hx102_0, hx102_1, hx102_2, hx102_3, hx102_4, hx102_5, hl102_4, hi102_4, hl102_5, hi102_5⟩ := at_T33 HR0.out x7_1 p102 q102
                  obtain rfl : ad101 = ad102 := (by injection e102)
                  have HR102_4 := Aside0.mk hi102_4
                  have HC102_4 := Aside0.mk hl102_4
                  clear hi102_4 hl102_4
                  have HR102_5 := Aside0.mk hi102_5
                  have HC102_5 := Aside0.mk hl102_5
                  clear hi102_5 hl102_5
                  replace p102 := eq_true p102
                  replace q102 := eq_true q102
                  have ea_ := Option.some.inj (hx101_4.symm.trans hx102_4)
                  injection ea_ with ea_ en_ ec_
                  subst ea_
                  subst ec_
                  clear en_
                  have ea_ := Option.some.inj (hx101_5.symm.trans hx102_5)
                  injection ea_ with ea_ en_ ec_
                  subst ea_
                  subst ec_
                  clear en_
                  go_wp2
                  go_ret
                  exact ⟨by first | rfl | (simp; done) | (simp [*]; done), by repeat (first | exact Drawn0.refl _ | apply Drawn0.step)⟩
                · rw [if_neg c7] at H
                  have c7b0 : decide (100 < (((rd_T33 l0 x7_1).f5).length : Int)) = false := decide_eq_false c7
                  have c7b1 : decide (100 < ((rd_T33 l0 x7_1).f5).length) = false := decide_eq_false (by omega)
                  clear c7
                  have H' := Aside0.mk H
                  clear H
                  have p101 : 0 ≤ (x7_1 : Int) := of_decide_eq_true (by first | (with_reducible assumption) | assumption)
                  have q101 : x7_1 < (l0.length : Int) := of_decide_eq_true (by first | (with_reducible assumption) | assumption)
                  obtain ⟨ad101, A101_4, c101_4, A101_5, c101_5, e101, hx101_0, hx101_1, hx101_2, hx101_3, hx101_4, hx101_5, hl101_4, hi101_4, hl101_5, hi101_5⟩ := at_T33 HR0.out x7_1 p101 q101
                  cases e101
                  have HR101_4 := Aside0.mk hi101_4
                  have HC101_4 := Aside0.mk hl101_4
                  clear hi101_4 hl101_4
                  have HR101_5 := Aside0.mk hi101_5
                  have HC101_5 := Aside0.mk hl101_5
                  clear hi101_5 hl101_5
                  replace p101 := eq_true p101
                  replace q101 := eq_true q101
                  have p102 : 0 ≤ (x7_1 : Int) := of_decide_eq_true (by first | (with_reducible assumption) | assumption)
                  have q102 : x7_1 < (l0.length : Int) := of_decide_eq_true (by first | (with_reducible assumption) | assumption)
                  obtain ⟨ad102, A102_4, c102_4, A102_5, c102_5, e102, hx102_0, hx102_1, hx102_2, hx102_3, hx102_4, hx102_5, hl102_4, hi102_4, hl102_5, hi102_5⟩ := at_T33 HR0.out x7_1 p102 q102
                  obtain rfl : ad101 = ad102 := (by injection e102)
                  have HR102_4 := Aside0.mk hi102_4
                  have HC102_4 := Aside0.mk hl102_4
                  clear hi102_4 hl102_4
                  have HR102_5 := Aside0.mk hi102_5
                  have HC102_5 := Aside0.mk hl102_5
                  clear hi102_5 hl102_5
                  replace p102 := eq_true p102
                  replace q102 := eq_true q102
                  have ea_ := Option.some.inj (hx101_4.symm.trans hx102_4)
                  injection ea_ with ea_ en_ ec_
                  subst ea_
                  subst ec_
                  clear en_
                  have ea_ := Option.some.inj (hx101_5.symm.trans hx102_5)
                  injection ea_ with ea_ en_ ec_
                  subst ea_
                  subst ec_
                  clear en_
                  go_wp2
                  go_roundg k1
                  case measure => have := HK1.out; omega
                  case rel => exact ⟨(wrap64 (x3_1 + (((rd_T33 l0 x7_1).f4).length : Int))), (wrap64 (x7_1 + 1)), (by first | rfl | (simp; done) | (simp [*]; done)), (by first | rfl | (simp; done) | (simp [*]; done)), H', ⟨by have := HK1.out; omega⟩, by repeat (first | exact Drawn0.refl _ | apply Drawn0.step)⟩
          · rw [if_neg c4] at H
            exact absurd H (by simp)
        · rw [if_neg c3] at H
          exact absurd H (by simp)
      · rw [if_neg c2] at H
        have c2b0 : decide (x7_1 < (l0.length : Int)) = false := decide_eq_false c2
        clear c2
        obtain rfl := Option.some.inj H
        go_wp2
        go_ret
        exact ⟨by first | rfl | (simp; done) | (simp [*]; done), by repeat (first | exact Drawn0.refl _ | apply Drawn0.step)⟩

-- NOT PRINTED: function 73 (slices_AppendSeq_int_int)

-- NOT PRINTED: function 65 (slices_Collect_int)

/-! ### cmp_isNaN_int: function 102 -/
def cmp_isNaN_int.f (a0 : Int) : Option (Bool) := some (a0 != a0)
set_option maxHeartbeats 8000000 in
set_option maxRecDepth 100000 in
theorem cmp_isNaN_int.calls (a0 : Int) (r : Bool) (w : World) (h : cmp_isNaN_int.f a0 = some r) :
    Calls Try.prog 102 #[.int .i64 a0] w fun e w' => e = .returned (.bool r) ∧ Drawn0 w w' := by
  have H : (some (a0 != a0)) = some r := h
  clear h
  obtain rfl := Option.some.inj H
  go_enter Try.func102, Try.ntmps102
  go_wp2
  go_ret
  exact ⟨by first | rfl | (simp; done) | (simp [*]; done), by repeat (first | exact Drawn0.refl _ | apply Drawn0.step)⟩

/-! ### cmp_Less_int: function 90 -/
def cmp_Less_int.f (a0 : Int) (a1 : Int) : Option (Bool) := (cmp_isNaN_int.f a0).bind fun t103 => (if t103 = true then ((cmp_isNaN_int.f a1).bind fun t104 => (if t104 = true then (some (decide (a0 < a1))) else (some true))) else (some (decide (a0 < a1))))
set_option maxHeartbeats 8000000 in
set_option maxRecDepth 100000 in
theorem cmp_Less_int.calls (a0 : Int) (a1 : Int) (r : Bool) (w : World) (h : cmp_Less_int.f a0 a1 = some r) :
    Calls Try.prog 90 #[.int .i64 a0, .int .i64 a1] w fun e w' => e = .returned (.bool r) ∧ Drawn0 w w' := by
  have H : ((cmp_isNaN_int.f a0).bind fun t103 => (if t103 = true then ((cmp_isNaN_int.f a1).bind fun t104 => (if t104 = true then (some (decide (a0 < a1))) else (some true))) else (some (decide (a0 < a1))))) = some r := h
  clear h
  replace H := Option.bind_eq_some_iff.mp H
  obtain ⟨t103, A30, H⟩ := H
  replace H : (if t103 = true then ((cmp_isNaN_int.f a1).bind fun t104 => (if t104 = true then (some (decide (a0 < a1))) else (some true))) else (some (decide (a0 < a1)))) = some r := H
  have A3 := Aside0.mk A30
  clear A30
  by_cases c4 : t103 = true
  · subst c4
    have H1 : ((cmp_isNaN_int.f a1).bind fun t104 => (if t104 = true then (some (decide (a0 < a1))) else (some true))) = some r := by rw [if_pos rfl] at H; exact H
    clear H
    have H := H1
    clear H1
    replace H := Option.bind_eq_some_iff.mp H
    obtain ⟨t104, A50, H⟩ := H
    replace H : (if t104 = true then (some (decide (a0 < a1))) else (some true)) = some r := H
    have A5 := Aside0.mk A50
    clear A50
    by_cases c6 : t104 = true
    · subst c6
      have H1 : (some (decide (a0 < a1))) = some r := by rw [if_pos rfl] at H; exact H
      clear H
      have H := H1
      clear H1
      obtain rfl := Option.some.inj H
      go_enter Try.func90, Try.ntmps90
      go_wp2_with (first | ((with_reducible refine gate_callee (f := 102) rfl ?_); refine goesL_ (some 6) rfl rfl Try.func102 (by kernel_rfl) rfl #[.int .i64 a0] rfl (by (try simp only [List.map_toArray, List.map_cons, List.map_nil]); first | done | rfl | (simp only [List.length_drop, List.length_take]; rfl)) ?_; (with_reducible refine (cmp_isNaN_int.calls a0 true _ A3.out).mono ?_); rintro e w' ⟨rfl, ⟨nd, rfl⟩⟩; refine ⟨_, rfl, ?_⟩) | (go_at_call 102; (with_reducible refine (cmp_isNaN_int.calls a1 true _ A5.out).mono ?_); rintro e w' ⟨rfl, ⟨nd, rfl⟩⟩))
      go_ret
      exact ⟨by first | rfl | (simp; done) | (simp [*]; done), by repeat (first | exact Drawn0.refl _ | apply Drawn0.step)⟩
    · replace c6 := Bool.eq_false_iff.mpr c6
      subst c6
      have H1 : (some true) = some r := by rw [if_neg (show ¬ (false = true) by decide)] at H; exact H
      clear H
      have H := H1
      clear H1
      obtain rfl := Option.some.inj H
      go_enter Try.func90, Try.ntmps90
      go_wp2_with (first | ((with_reducible refine gate_callee (f := 102) rfl ?_); refine goesL_ (some 6) rfl rfl Try.func102 (by kernel_rfl) rfl #[.int .i64 a0] rfl (by (try simp only [List.map_toArray, List.map_cons, List.map_nil]); first | done | rfl | (simp only [List.length_drop, List.length_take]; rfl)) ?_; (with_reducible refine (cmp_isNaN_int.calls a0 true _ A3.out).mono ?_); rintro e w' ⟨rfl, ⟨nd, rfl⟩⟩; refine ⟨_, rfl, ?_⟩) | (go_at_call 102; (with_reducible refine (cmp_isNaN_int.calls a1 false _ A5.out).mono ?_); rintro e w' ⟨rfl, ⟨nd, rfl⟩⟩))
      go_ret
      exact ⟨by first | rfl | (simp; done) | (simp [*]; done), by repeat (first | exact Drawn0.refl _ | apply Drawn0.step)⟩
  · replace c4 := Bool.eq_false_iff.mpr c4
    subst c4
    have H1 : (some (decide (a0 < a1))) = some r := by rw [if_neg (show ¬ (false = true) by decide)] at H; exact H
    clear H
    have H := H1
    clear H1
    obtain rfl := Option.some.inj H
    go_enter Try.func90, Try.ntmps90
    go_wp2_with (first | ((with_reducible refine gate_callee (f := 102) rfl ?_); refine goesL_ (some 6) rfl rfl Try.func102 (by kernel_rfl) rfl #[.int .i64 a0] rfl (by (try simp only [List.map_toArray, List.map_cons, List.map_nil]); first | done | rfl | (simp only [List.length_drop, List.length_take]; rfl)) ?_; (with_reducible refine (cmp_isNaN_int.calls a0 false _ A3.out).mono ?_); rintro e w' ⟨rfl, ⟨nd, rfl⟩⟩; refine ⟨_, rfl, ?_⟩))
    go_ret
    exact ⟨by first | rfl | (simp; done) | (simp [*]; done), by repeat (first | exact Drawn0.refl _ | apply Drawn0.step)⟩

end Go.Proofs.Ytnplnelhodnonaa.PDiskNil
