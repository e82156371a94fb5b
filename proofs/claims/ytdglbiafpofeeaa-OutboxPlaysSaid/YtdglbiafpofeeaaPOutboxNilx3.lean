-- Written by fprint.py (wip), by way of the printer's functions; where they are turned, by texts of mine.
import Derived.Test.YtdglbiafpofeeaaPOutboxNilx0
import Derived.Test.YtdglbiafpofeeaaPOutboxNilx1
import Derived.Test.YtdglbiafpofeeaaPOutboxNilx2
namespace Go.Proofs.Ytdglbiafpofeeaa.POutboxNil
open Go.RowKit Go.Proofs.YtdglbiafpofeeaaW.PrintWords Go.Proofs.YtdglbiafpofeeaaW.PrintLast Go.Proofs.YtdglbiafpofeeaaW.PrintMore
attribute [local go_sem] max2_int min2_int max_two min_two max_three min_three max_four min_four   -- for this text's walks alone
set_option linter.unusedVariables false
set_option linter.unusedSimpArgs false

/-! ### seal_Sum: function 70 -/
mutual
def seal_Sum.l0 : Nat → Int → List Int → Int → Int → Option (Int)
  | 0, _, _, _, _ => none
  | k + 1, x3, x7, x8, x9 => if x9 < x8 then (if 0 ≤ x9 then (if x9 < (x7.length : Int) then (seal_Sum.l1 k (Go.bits .xor .u16 x3 (IntKind.u16.wrap ((IntKind.u16.wrap (rd x7 x9)) * 256))) x7 x8 x9 0) else (none)) else (none)) else (some x3)
def seal_Sum.l1 : Nat → Int → List Int → Int → Int → Int → Option (Int)
  | 0, _, _, _, _, _ => none
  | k + 1, x3, x7, x8, x9, x18 => if x18 < 8 then (seal_Sum.l1 k (Go.bits .xor .u16 (IntKind.u16.wrap (x3 * 2)) (IntKind.u16.wrap ((x3 / 32768) * 4129))) x7 x8 x9 (wrap64 (x18 + 1))) else (seal_Sum.l0 k x3 x7 x8 (wrap64 (x9 + 1)))
end
def seal_Sum.f (k : Nat) (l0 : List Int) : Option (Int) := seal_Sum.l0 k 65535 l0 (l0.length : Int) 0
theorem seal_Sum.mono_l : ∀ k, (∀ y0 y1 y2 y3, LeO (seal_Sum.l0 k y0 y1 y2 y3) (seal_Sum.l0 (k + 1) y0 y1 y2 y3)) ∧ (∀ y0 y1 y2 y3 y4, LeO (seal_Sum.l1 k y0 y1 y2 y3 y4) (seal_Sum.l1 (k + 1) y0 y1 y2 y3 y4))
  | 0 => ⟨fun _ _ _ _ r h => by simp [seal_Sum.l0] at h, fun _ _ _ _ _ r h => by simp [seal_Sum.l1] at h⟩
  | k + 1 => by
    obtain ⟨ih0, ih1⟩ := seal_Sum.mono_l k
    refine ⟨?_, ?_⟩
    · intro y0 y1 y2 y3
      unfold seal_Sum.l0
      repeat' first
      | (with_reducible exact ih0 _ _ _ _)
      | (with_reducible exact ih1 _ _ _ _ _)
      | (with_reducible exact LeO.refl _)
      | (with_reducible exact LeO.none _)
      | (with_reducible refine LeO.ite ?_ ?_)
      | (with_reducible refine LeO.bind ?_ (fun _ => ?_))
      | exact ih0 _ _ _ _
      | exact ih1 _ _ _ _ _
      | exact LeO.none _
      | refine LeO.ite ?_ ?_
      | refine LeO.bind ?_ (fun _ => ?_)
    · intro y0 y1 y2 y3 y4
      unfold seal_Sum.l1
      repeat' first
      | (with_reducible exact ih0 _ _ _ _)
      | (with_reducible exact ih1 _ _ _ _ _)
      | (with_reducible exact LeO.refl _)
      | (with_reducible exact LeO.none _)
      | (with_reducible refine LeO.ite ?_ ?_)
      | (with_reducible refine LeO.bind ?_ (fun _ => ?_))
      | exact ih0 _ _ _ _
      | exact ih1 _ _ _ _ _
      | exact LeO.none _
      | refine LeO.ite ?_ ?_
      | refine LeO.bind ?_ (fun _ => ?_)
theorem seal_Sum.mono : ∀ a0 k, LeO (seal_Sum.f k a0) (seal_Sum.f (k + 1) a0) := by
  intro a0 k
  obtain ⟨ih0, ih1⟩ := seal_Sum.mono_l k
  unfold seal_Sum.f
  repeat' first
      | (with_reducible exact ih0 _ _ _ _)
      | (with_reducible exact ih1 _ _ _ _ _)
      | (with_reducible exact LeO.refl _)
      | (with_reducible exact LeO.none _)
      | (with_reducible refine LeO.ite ?_ ?_)
      | (with_reducible refine LeO.bind ?_ (fun _ => ?_))
      | exact ih0 _ _ _ _
      | exact ih1 _ _ _ _ _
      | exact LeO.none _
      | refine LeO.ite ?_ ?_
      | refine LeO.bind ?_ (fun _ => ?_)
set_option maxHeartbeats 8000000 in
set_option maxRecDepth 100000 in
theorem seal_Sum.calls (k : Nat) (A0 : Option Addr) (c0 : Nat) (l0 : List Int) (r : Int) (w : World) (hr0 : Kd.C (Kd.int .u8) w A0 l0.length l0) (hc0 : l0.length ≤ c0) (h : seal_Sum.f k l0 = some r) :
    Calls Try.prog 70 #[.slice A0 l0.length c0] w fun e w' => e = .returned (.int .u16 r) ∧ Drawn0 w w' := by
  have HR0 := Aside0.mk hr0
  have HC0 := Aside0.mk hc0
  clear hr0 hc0
  have H : (seal_Sum.l0 k 65535 l0 (l0.length : Int) 0) = some r := h
  clear h
  have H' := Aside0.mk H
  clear H
  go_enter Try.func70, Try.ntmps70
  go_wp2
  go_loopg [3, 9] k (fun kq v3 v9 w' => ∃ (x3_1 : Int) (x9_1 : Int), v3 = .int .u16 x3_1 ∧ v9 = .int .i64 x9_1 ∧ Aside0 (seal_Sum.l0 kq x3_1 l0 (l0.length : Int) x9_1 = some r) ∧ Aside0 (kq ≤ k) ∧ Drawn0 w w')
  case atStart => exact ⟨(65535), (0), (by first | rfl | (simp; done) | (simp [*]; done)), (by first | rfl | (simp; done) | (simp [*]; done)), H', ⟨Nat.le_refl _⟩, by repeat (first | exact Drawn0.refl _ | apply Drawn0.step)⟩
  case round =>
    clear H'
    obtain ⟨x3_1, x9_1, rfl, rfl, HA, HK1, ⟨m1, rfl⟩⟩ := hrel
    cases gk with
    | zero => exact absurd HA.out (by simp [seal_Sum.l0])
    | succ k1 =>
      have H := HA.out
      clear HA
      simp only [seal_Sum.l0] at H
      by_cases c2 : x9_1 < (l0.length : Int)
      · rw [if_pos c2] at H
        have c2b0 : decide (x9_1 < (l0.length : Int)) = true := decide_eq_true c2
        clear c2
        by_cases c3 : 0 ≤ x9_1
        · rw [if_pos c3] at H
          have c3b0 : decide (0 ≤ x9_1) = true := decide_eq_true c3
          clear c3
          by_cases c4 : x9_1 < (l0.length : Int)
          · rw [if_pos c4] at H
            have c4b0 : decide (x9_1 < (l0.length : Int)) = true := decide_eq_true c4
            clear c4
            have H' := Aside0.mk H
            clear H
            have p166 : 0 ≤ (x9_1 : Int) := of_decide_eq_true (by first | (with_reducible assumption) | assumption)
            have q166 : x9_1 < (l0.length : Int) := of_decide_eq_true (by first | (with_reducible assumption) | assumption)
            obtain ⟨ad166, e166, hx166_0⟩ := Kd.at_int HR0.out x9_1 p166 q166
            cases e166
            replace p166 := eq_true p166
            replace q166 := eq_true q166
            go_wp2
            go_loopg [3, 18] k1 (fun kq v3 v18 w' => ∃ (x3_2 : Int) (x18_2 : Int), v3 = .int .u16 x3_2 ∧ v18 = .int .i64 x18_2 ∧ Aside0 (seal_Sum.l1 kq x3_2 l0 (l0.length : Int) x9_1 x18_2 = some r) ∧ Aside0 (kq ≤ k1) ∧ Drawn0 w w')
            case atStart => exact ⟨(Go.bits .xor .u16 x3_1 (IntKind.u16.wrap ((IntKind.u16.wrap (rd l0 x9_1)) * 256))), (0), (by first | rfl | (simp; done) | (simp [*]; done)), (by first | rfl | (simp; done) | (simp [*]; done)), H', ⟨Nat.le_refl _⟩, by repeat (first | exact Drawn0.refl _ | apply Drawn0.step)⟩
            case round =>
              clear H'
              try clear p1
              try clear q1
              try clear hx1
              try clear c2
              try clear c2b0
              try clear p2
              try clear c3
              try clear c3b0
              try clear c4
              try clear c4b0
              try clear hx166_0
              try clear p166
              try clear q166
              obtain ⟨x3_2, x18_2, rfl, rfl, HA, HK2, ⟨m2, rfl⟩⟩ := hrel
              cases gk with
              | zero => exact absurd HA.out (by simp [seal_Sum.l1])
              | succ k2 =>
                have H := HA.out
                clear HA
                simp only [seal_Sum.l1] at H
                by_cases c5 : x18_2 < 8
                · rw [if_pos c5] at H
                  have c5b0 : decide (x18_2 < 8) = true := decide_eq_true c5
                  clear c5
                  have H' := Aside0.mk H
                  clear H
                  go_wp2
                  go_roundg k2
                  case measure => have := HK1.out; have := HK2.out; omega
                  case rel => exact ⟨(Go.bits .xor .u16 (IntKind.u16.wrap (x3_2 * 2)) (IntKind.u16.wrap ((x3_2 / 32768) * 4129))), (wrap64 (x18_2 + 1)), (by first | rfl | (simp; done) | (simp [*]; done)), (by first | rfl | (simp; done) | (simp [*]; done)), H', ⟨by have := HK1.out; have := HK2.out; omega⟩, by repeat (first | exact Drawn0.refl _ | apply Drawn0.step)⟩
                · rw [if_neg c5] at H
                  have c5b0 : decide (x18_2 < 8) = false := decide_eq_false c5
                  clear c5
                  have H' := Aside0.mk H
                  clear H
                  go_wp2
                  go_roundg k2
                  case measure => have := HK1.out; have := HK2.out; omega
                  case rel => exact ⟨(x3_2), (wrap64 (x9_1 + 1)), (by first | rfl | (simp; done) | (simp [*]; done)), (by first | rfl | (simp; done) | (simp [*]; done)), H', ⟨by have := HK1.out; have := HK2.out; omega⟩, by repeat (first | exact Drawn0.refl _ | apply Drawn0.step)⟩
          · rw [if_neg c4] at H
            exact absurd H (by simp)
        · rw [if_neg c3] at H
          exact absurd H (by simp)
      · rw [if_neg c2] at H
        have c2b0 : decide (x9_1 < (l0.length : Int)) = false := decide_eq_false c2
        clear c2
        obtain rfl := Option.some.inj H
        go_wp2
        go_ret
        exact ⟨by first | rfl | (simp; done) | (simp [*]; done), by repeat (first | exact Drawn0.refl _ | apply Drawn0.step)⟩

/-! ### seal_Seal: function 55 -/
def seal_Seal.f (k : Nat) (l0 : List Int) : Option (List Int × Int) := if (l0.length : Int) = 0 then (some (([] : List Int), 1)) else (if (l0.length : Int) > 14000 then (some (([] : List Int), 4)) else ((seal_two.f ([] : List Int) (IntKind.u16.wrap ((l0.length : Int)))).bind fun t167 => ((seal_Sum.f k t167).bind fun t170 => ((seal_two.f t167 t170).bind fun t171 => (if t171.length + l0.length < 140737488355328 then ((some (t171 ++ l0 : List Int)).bind fun y174 => ((seal_Sum.f k y174).bind fun t177 => ((seal_two.f y174 t177).bind fun t178 => (some (t178, 0))))) else (none))))))
theorem seal_Seal.mono : ∀ a0 k, LeO (seal_Seal.f k a0) (seal_Seal.f (k + 1) a0) := by
  intro a0 k
  unfold seal_Seal.f
  repeat' first
      | (with_reducible exact seal_Sum.mono _ _)
      | (with_reducible exact LeO.refl _)
      | (with_reducible exact LeO.none _)
      | (with_reducible refine LeO.ite ?_ ?_)
      | (with_reducible refine LeO.bind ?_ (fun _ => ?_))
      | exact seal_Sum.mono _ _
      | exact LeO.none _
      | refine LeO.ite ?_ ?_
      | refine LeO.bind ?_ (fun _ => ?_)
set_option maxHeartbeats 8000000 in
set_option maxRecDepth 100000 in
theorem seal_Seal.calls (k : Nat) (A0 : Option Addr) (c0 : Nat) (l0 : List Int) (r1 : List Int) (r2 : Int) (w : World) (hr0 : Kd.C (Kd.int .u8) w A0 l0.length l0) (hc0 : l0.length ≤ c0) (h : seal_Seal.f k l0 = some (r1, r2)) :
    Calls Try.prog 55 #[.slice A0 l0.length c0] w fun e w' => ∃ v0_ : Value, e = .returned (.tuple #[v0_, .int .i64 r2]) ∧ Kd.R (Kd.int .u8) 5 w' w.heap.size (fun _ => True) v0_ r1 ∧ Below w.heap.size w w' := by
  have HR0 := Aside0.mk hr0
  have HC0 := Aside0.mk hc0
  clear hr0 hc0
  have HB := Aside0.mk (Below.refl w.heap.size w)
  have H : (if (l0.length : Int) = 0 then (some (([] : List Int), 1)) else (if (l0.length : Int) > 14000 then (some (([] : List Int), 4)) else ((seal_two.f ([] : List Int) (IntKind.u16.wrap ((l0.length : Int)))).bind fun t167 => ((seal_Sum.f k t167).bind fun t170 => ((seal_two.f t167 t170).bind fun t171 => (if t171.length + l0.length < 140737488355328 then ((some (t171 ++ l0 : List Int)).bind fun y174 => ((seal_Sum.f k y174).bind fun t177 => ((seal_two.f y174 t177).bind fun t178 => (some (t178, 0))))) else (none))))))) = some (r1, r2) := h
  clear h
  by_cases c2 : (l0.length : Int) = 0
  · rw [if_pos c2] at H
    have c2b0 : ((l0.length : Int) == 0) = true := beq_iff_eq.mpr c2
    have c2b1 : ((l0.length : Int) != 0) = false := bne_eq_false_iff_eq.mpr c2
    clear c2
    simp only [Option.some.injEq, Prod.mk.injEq] at H
    obtain ⟨rfl, rfl⟩ := H
    go_enter Try.func55, Try.ntmps55
    go_wp2
    go_ret2
    exact ⟨_, by first | rfl | (simp [errW_none, errW_some] <;> rfl) | (simp [*, errW_none, errW_some] <;> rfl), by first | exact Kd.R_nil _ _ _ _ _ | exact Kd.N_nil _ _ _ _ _ | exact Kd.V_nil _ _ _ _ _ | exact Kd.Q_nil _ _ _ _ _ | exact Kd.S_nil _ _ _ _ _, by repeat (first | (with_reducible first | exact HB.out | apply below_alloc | apply pw_below_drewN | apply below_drew1) | exact HB.out)⟩
  · rw [if_neg c2] at H
    have c2b0 : ((l0.length : Int) == 0) = false := beq_eq_false_iff_ne.mpr c2
    have c2b1 : ((l0.length : Int) != 0) = true := bne_iff_ne.mpr c2
    have c2b2 : ¬ (l0 = []) := fun h_ => c2 (by rw [h_]; rfl)
    by_cases c3 : (l0.length : Int) > 14000
    · rw [if_pos c3] at H
      have c3b0 : decide (14000 < (l0.length : Int)) = true := decide_eq_true c3
      have c3b1 : decide (14000 < l0.length) = true := decide_eq_true (by omega)
      clear c3
      simp only [Option.some.injEq, Prod.mk.injEq] at H
      obtain ⟨rfl, rfl⟩ := H
      go_enter Try.func55, Try.ntmps55
      go_wp2
      go_ret2
      exact ⟨_, by first | rfl | (simp [errW_none, errW_some] <;> rfl) | (simp [*, errW_none, errW_some] <;> rfl), by first | exact Kd.R_nil _ _ _ _ _ | exact Kd.N_nil _ _ _ _ _ | exact Kd.V_nil _ _ _ _ _ | exact Kd.Q_nil _ _ _ _ _ | exact Kd.S_nil _ _ _ _ _, by repeat (first | (with_reducible first | exact HB.out | apply below_alloc | apply pw_below_drewN | apply below_drew1) | exact HB.out)⟩
    · rw [if_neg c3] at H
      have c3b0 : decide (14000 < (l0.length : Int)) = false := decide_eq_false c3
      have c3b1 : decide (14000 < l0.length) = false := decide_eq_false (by omega)
      clear c3
      replace H := Option.bind_eq_some_iff.mp H
      obtain ⟨t167, A40, H⟩ := H
      replace H : ((seal_Sum.f k t167).bind fun t170 => ((seal_two.f t167 t170).bind fun t171 => (if t171.length + l0.length < 140737488355328 then ((some (t171 ++ l0 : List Int)).bind fun y174 => ((seal_Sum.f k y174).bind fun t177 => ((seal_two.f y174 t177).bind fun t178 => (some (t178, 0))))) else (none)))) = some (r1, r2) := H
      have A4 := Aside0.mk A40
      clear A40
      replace H := Option.bind_eq_some_iff.mp H
      obtain ⟨t170, A50, H⟩ := H
      replace H : ((seal_two.f t167 t170).bind fun t171 => (if t171.length + l0.length < 140737488355328 then ((some (t171 ++ l0 : List Int)).bind fun y174 => ((seal_Sum.f k y174).bind fun t177 => ((seal_two.f y174 t177).bind fun t178 => (some (t178, 0))))) else (none))) = some (r1, r2) := H
      have A5 := Aside0.mk A50
      clear A50
      replace H := Option.bind_eq_some_iff.mp H
      obtain ⟨t171, A60, H⟩ := H
      replace H : (if t171.length + l0.length < 140737488355328 then ((some (t171 ++ l0 : List Int)).bind fun y174 => ((seal_Sum.f k y174).bind fun t177 => ((seal_two.f y174 t177).bind fun t178 => (some (t178, 0))))) else (none)) = some (r1, r2) := H
      have A6 := Aside0.mk A60
      clear A60
      by_cases c7 : t171.length + l0.length < 140737488355328
      · rw [if_pos c7] at H
        have LMc7 := Aside0.mk c7
        clear c7
        obtain ⟨y174, hy174⟩ : ∃ y_ : List Int, y_ = (t171 ++ l0) := ⟨_, rfl⟩
        replace H : ((seal_Sum.f k y174).bind fun t177 => ((seal_two.f y174 t177).bind fun t178 => (some (t178, 0)))) = some (r1, r2) := by first | (rw [hy174]; with_reducible exact H) | (have H2_ := (Option.bind_some _ _).symm.trans H; rw [hy174]; with_reducible exact H2_) | (have H2_ := (Option.bind_some _ _).symm.trans H; with_reducible exact H2_) | with_reducible exact H | (rw [hy174]; exact H) | exact H
        have Ny174 := Aside0.mk hy174
        clear hy174
        replace H := Option.bind_eq_some_iff.mp H
        obtain ⟨t177, A80, H⟩ := H
        replace H : ((seal_two.f y174 t177).bind fun t178 => (some (t178, 0))) = some (r1, r2) := H
        have A8 := Aside0.mk A80
        clear A80
        replace H := Option.bind_eq_some_iff.mp H
        obtain ⟨t178, A90, H⟩ := H
        replace H : (some (t178, 0)) = some (r1, r2) := H
        have A9 := Aside0.mk A90
        clear A90
        simp only [Option.some.injEq, Prod.mk.injEq] at H
        obtain ⟨rfl, rfl⟩ := H
        go_enter Try.func55, Try.ntmps55
        go_wp2_with (first | ((with_reducible refine gate_callee (f := 69) rfl ?_); refine goesL_ (some 16) rfl rfl Try.func69 (by kernel_rfl) rfl #[.slice none 0 0, .int .u16 (IntKind.u16.wrap ((l0.length : Int)))] rfl (by (try simp only [List.map_toArray, List.map_cons, List.map_nil]); first | done | rfl | (simp only [List.length_drop, List.length_take]; rfl)) ?_; (refine (seal_two.calls (fun k_ => some k_ = (.slice none 0 0 : Value).ownBlock) (.slice none 0 0) ([] : List Int) (IntKind.u16.wrap ((l0.length : Int))) t167 w _ ?side1 ?side2 A4.out).mono ?_); (case side1 => repeat (first | (with_reducible first | exact HB.out | apply below_alloc | apply pw_below_drewN | apply below_drew1) | exact HB.out)); (case side2 => exact Kd.R_nil _ _ _ _ _); rintro e w10 ⟨v168, rfl, ho0, hb, hkp⟩; refine ⟨_, rfl, ?_⟩; have n0_ := Aside0.mk (Kd.R_mono (ok' := fun k_ => True) ho0 (fun k_ hk_ => trivial)); have n1_ := Aside0.mk (hb); clear HB; have HO169 := n0_; have HB := n1_; clear n0_ n1_; (try clear hb); (try clear hkp); (try clear ho0); obtain ⟨Ao11, co11, eo11⟩ := Kd.R_slice HO169.out; subst eo11) | ((with_reducible refine gate_callee (f := 70) rfl ?_); refine goesL_ (some 19) rfl rfl Try.func70 (by kernel_rfl) rfl #[.slice Ao11 t167.length co11] rfl (by (try simp only [List.map_toArray, List.map_cons, List.map_nil]); first | done | rfl | (simp only [List.length_drop, List.length_take]; rfl)) ?_; (with_reducible refine (seal_Sum.calls k _ _ t167 t170 _ ?side1 ?side2 A5.out).mono ?_); (case side1 => repeat (first | exact (Kd.R_reads' HO169.out).2.2 | (with_reducible refine Kd.C_alloc ?_ _) | (with_reducible refine Kd.C_drewN ?_ _) | (with_reducible refine Kd.C_drew ?_))); (case side2 => exact (Kd.R_reads' HO169.out).2.1); rintro e w' ⟨rfl, ⟨nd, rfl⟩⟩; refine ⟨_, rfl, ?_⟩) | ((with_reducible refine gate_callee (f := 69) rfl ?_); refine goesL_ (some 20) rfl rfl Try.func69 (by kernel_rfl) rfl #[.slice Ao11 t167.length co11, .int .u16 t170] rfl (by (try simp only [List.map_toArray, List.map_cons, List.map_nil]); first | done | rfl | (simp only [List.length_drop, List.length_take]; rfl)) ?_; (with_reducible refine (seal_two.calls (fun k_ => some k_ = (.slice Ao11 t167.length co11 : Value).ownBlock) (.slice Ao11 t167.length co11) t167 t170 t171 w _ ?side1 ?side2 A6.out).mono ?_); (case side1 => repeat (first | (with_reducible first | exact HB.out | apply below_alloc | apply pw_below_drewN | apply below_drew1) | exact HB.out)); (case side2 => exact Kd.R_tight rfl HO169.out); rintro e w12 ⟨v172, rfl, ho0, hb, hkp⟩; refine ⟨_, rfl, ?_⟩; have n0_ := Aside0.mk (Kd.R_mono (ok' := fun k_ => True) ho0 (fun k_ hk_ => trivial)); have n1_ := Aside0.mk (hb); clear HB; clear HO169; have HO173 := n0_; have HB := n1_; clear n0_ n1_; (try clear hb); (try clear hkp); (try clear ho0)) | ((with_reducible refine gate_builtin (b := .append) (xs := #[.tmp 21, .tmp 22]) rfl ?_); at_builtin; refine Kd.R_append_rows (Kd.int .u8) (w0 := w) w.heap.size rfl (.tmp 21) (.tmp 22) 50 5 (.int .u8 0) 1 rfl Try.underlying50 info5 rfl (by decide) (by omega) v172 t171 l0 _ _ _ (fun _ => True) (fun _ => False) rfl rfl ?aO ?aR (fun _ _ h => h) (fun _ h => h.elim) ?aF ?aB ?aS ?aL ?_; (case aR => repeat (first | exact (Kd.C_below HR0.out HB.out) | (with_reducible refine Kd.C_alloc ?_ _) | (with_reducible refine Kd.C_drewN ?_ _) | (with_reducible refine Kd.C_drew ?_))); (case aB => exact (by repeat (first | (with_reducible first | exact HB.out | apply below_alloc | apply pw_below_drewN | apply below_drew1) | exact HB.out))); (case aF => exact (fun _ _ => trivial)); (case aO => exact (by (with_reducible repeat (first | apply Kd.R_alloc | apply Kd.R_drewN | apply Kd.R_drew)); exact HO173.out)); (case aS => exact (below_size (by repeat (first | (with_reducible first | exact HB.out | apply below_alloc | apply pw_below_drewN | apply below_drew1) | exact HB.out)))); (case aL => have := LMc7.out; omega); intro v175 w13 ho hb hg hat; rw [← Ny174.out] at ho; have n0_ := Aside0.mk (hb); have n1_ := Aside0.mk (ho); clear HB; clear HO173; have HB := n0_; have HO176 := n1_; clear n0_ n1_; clear ho hb hg hat; obtain ⟨Ao14, co14, eo14⟩ := Kd.R_slice HO176.out; subst eo14) | ((with_reducible refine gate_callee (f := 70) rfl ?_); refine goesL_ (some 26) rfl rfl Try.func70 (by kernel_rfl) rfl #[.slice Ao14 y174.length co14] rfl (by (try simp only [List.map_toArray, List.map_cons, List.map_nil]); first | done | rfl | (simp only [List.length_drop, List.length_take]; rfl)) ?_; (with_reducible refine (seal_Sum.calls k _ _ y174 t177 _ ?side1 ?side2 A8.out).mono ?_); (case side1 => repeat (first | exact (Kd.R_reads' HO176.out).2.2 | (with_reducible refine Kd.C_alloc ?_ _) | (with_reducible refine Kd.C_drewN ?_ _) | (with_reducible refine Kd.C_drew ?_))); (case side2 => exact (Kd.R_reads' HO176.out).2.1); rintro e w' ⟨rfl, ⟨nd, rfl⟩⟩; refine ⟨_, rfl, ?_⟩) | ((with_reducible refine gate_callee (f := 69) rfl ?_); refine goesL_ (some 27) rfl rfl Try.func69 (by kernel_rfl) rfl #[.slice Ao14 y174.length co14, .int .u16 t177] rfl (by (try simp only [List.map_toArray, List.map_cons, List.map_nil]); first | done | rfl | (simp only [List.length_drop, List.length_take]; rfl)) ?_; (with_reducible refine (seal_two.calls (fun k_ => some k_ = (.slice Ao14 y174.length co14 : Value).ownBlock) (.slice Ao14 y174.length co14) y174 t177 t178 w _ ?side1 ?side2 A9.out).mono ?_); (case side1 => repeat (first | (with_reducible first | exact HB.out | apply below_alloc | apply pw_below_drewN | apply below_drew1) | exact HB.out)); (case side2 => exact Kd.R_tight rfl HO176.out); rintro e w15 ⟨v179, rfl, ho0, hb, hkp⟩; refine ⟨_, rfl, ?_⟩; have n0_ := Aside0.mk (Kd.R_mono (ok' := fun k_ => True) ho0 (fun k_ hk_ => trivial)); have n1_ := Aside0.mk (hb); clear HB; clear HO176; have HO180 := n0_; have HB := n1_; clear n0_ n1_; (try clear hb); (try clear hkp); (try clear ho0)))
        go_ret2
        exact ⟨_, by first | rfl | (simp [errW_none, errW_some] <;> rfl) | (simp [*, errW_none, errW_some] <;> rfl), by (with_reducible repeat (first | apply Kd.R_alloc | apply Kd.R_drewN | apply Kd.R_drew)); exact HO180.out, by repeat (first | (with_reducible first | exact HB.out | apply below_alloc | apply pw_below_drewN | apply below_drew1) | exact HB.out)⟩
      · rw [if_neg c7] at H
        exact absurd H (by simp)

/-! ### outbox_Encode: function 34 -/
def outbox_Encode.f (k : Nat) (a0_0 : Int) (a0_1 : Int) (a0_2 : Int) (a0_3 : ByteArray) (a0_4 : Int) (a0_5 : Bool) : Option (List Int × Int) := (outbox_Formed.f a0_0 a0_1 a0_2 a0_3 a0_4 a0_5).bind fun t182 => (if t182 = true then (if a0_5 = true then ((pack_Items.f k (([(⟨false, a0_0, (⟨#[]⟩ : ByteArray)⟩ : S112), (⟨false, a0_1, (⟨#[]⟩ : ByteArray)⟩ : S112), (⟨false, a0_2, (⟨#[]⟩ : ByteArray)⟩ : S112), (⟨true, 0, a0_3⟩ : S112), (⟨false, a0_4, (⟨#[]⟩ : ByteArray)⟩ : S112), (⟨false, 1, (⟨#[]⟩ : ByteArray)⟩ : S112)] : List (S112)))).bind fun bt187 => ((seal_Seal.f k bt187.1).bind fun bt191 => (some (bt191.1, bt191.2)))) else ((pack_Items.f k (([(⟨false, a0_0, (⟨#[]⟩ : ByteArray)⟩ : S112), (⟨false, a0_1, (⟨#[]⟩ : ByteArray)⟩ : S112), (⟨false, a0_2, (⟨#[]⟩ : ByteArray)⟩ : S112), (⟨true, 0, a0_3⟩ : S112), (⟨false, a0_4, (⟨#[]⟩ : ByteArray)⟩ : S112), (⟨false, 0, (⟨#[]⟩ : ByteArray)⟩ : S112)] : List (S112)))).bind fun bt198 => ((seal_Seal.f k bt198.1).bind fun bt202 => (some (bt202.1, bt202.2))))) else (some (([] : List Int), 1)))
theorem outbox_Encode.mono : ∀ a0 a1 a2 a3 a4 a5 k, LeO (outbox_Encode.f k a0 a1 a2 a3 a4 a5) (outbox_Encode.f (k + 1) a0 a1 a2 a3 a4 a5) := by
  intro a0 a1 a2 a3 a4 a5 k
  unfold outbox_Encode.f
  repeat' first
      | (with_reducible exact pack_Items.mono _ _)
      | (with_reducible exact seal_Seal.mono _ _)
      | (with_reducible exact LeO.refl _)
      | (with_reducible exact LeO.none _)
      | (with_reducible refine LeO.ite ?_ ?_)
      | (with_reducible refine LeO.bind ?_ (fun _ => ?_))
      | exact pack_Items.mono _ _
      | exact seal_Seal.mono _ _
      | exact LeO.none _
      | refine LeO.ite ?_ ?_
      | refine LeO.bind ?_ (fun _ => ?_)
set_option maxHeartbeats 8000000 in
set_option maxRecDepth 100000 in
theorem outbox_Encode.calls (k : Nat) (a0_0 : Int) (a0_1 : Int) (a0_2 : Int) (a0_3 : ByteArray) (a0_4 : Int) (a0_5 : Bool) (r1 : List Int) (r2 : Int) (w : World) (h : outbox_Encode.f k a0_0 a0_1 a0_2 a0_3 a0_4 a0_5 = some (r1, r2)) :
    Calls Try.prog 34 #[.agg #[.int .i64 a0_0, .int .i64 a0_1, .int .i64 a0_2, .string a0_3, .int .i64 a0_4, .bool a0_5]] w fun e w' => ∃ v0_ : Value, e = .returned (.tuple #[v0_, .int .i64 r2]) ∧ Kd.R (Kd.int .u8) 5 w' w.heap.size (fun _ => True) v0_ r1 ∧ Below w.heap.size w w' := by
  have hu28 := Try.underlying28
  have hu112 := Try.underlying112
  have HB := Aside0.mk (Below.refl w.heap.size w)
  have H : ((outbox_Formed.f a0_0 a0_1 a0_2 a0_3 a0_4 a0_5).bind fun t182 => (if t182 = true then (if a0_5 = true then ((pack_Items.f k (([(⟨false, a0_0, (⟨#[]⟩ : ByteArray)⟩ : S112), (⟨false, a0_1, (⟨#[]⟩ : ByteArray)⟩ : S112), (⟨false, a0_2, (⟨#[]⟩ : ByteArray)⟩ : S112), (⟨true, 0, a0_3⟩ : S112), (⟨false, a0_4, (⟨#[]⟩ : ByteArray)⟩ : S112), (⟨false, 1, (⟨#[]⟩ : ByteArray)⟩ : S112)] : List (S112)))).bind fun bt187 => ((seal_Seal.f k bt187.1).bind fun bt191 => (some (bt191.1, bt191.2)))) else ((pack_Items.f k (([(⟨false, a0_0, (⟨#[]⟩ : ByteArray)⟩ : S112), (⟨false, a0_1, (⟨#[]⟩ : ByteArray)⟩ : S112), (⟨false, a0_2, (⟨#[]⟩ : ByteArray)⟩ : S112), (⟨true, 0, a0_3⟩ : S112), (⟨false, a0_4, (⟨#[]⟩ : ByteArray)⟩ : S112), (⟨false, 0, (⟨#[]⟩ : ByteArray)⟩ : S112)] : List (S112)))).bind fun bt198 => ((seal_Seal.f k bt198.1).bind fun bt202 => (some (bt202.1, bt202.2))))) else (some (([] : List Int), 1)))) = some (r1, r2) := h
  clear h
  replace H := Option.bind_eq_some_iff.mp H
  obtain ⟨t182, A20, H⟩ := H
  replace H : (if t182 = true then (if a0_5 = true then ((pack_Items.f k (([(⟨false, a0_0, (⟨#[]⟩ : ByteArray)⟩ : S112), (⟨false, a0_1, (⟨#[]⟩ : ByteArray)⟩ : S112), (⟨false, a0_2, (⟨#[]⟩ : ByteArray)⟩ : S112), (⟨true, 0, a0_3⟩ : S112), (⟨false, a0_4, (⟨#[]⟩ : ByteArray)⟩ : S112), (⟨false, 1, (⟨#[]⟩ : ByteArray)⟩ : S112)] : List (S112)))).bind fun bt187 => ((seal_Seal.f k bt187.1).bind fun bt191 => (some (bt191.1, bt191.2)))) else ((pack_Items.f k (([(⟨false, a0_0, (⟨#[]⟩ : ByteArray)⟩ : S112), (⟨false, a0_1, (⟨#[]⟩ : ByteArray)⟩ : S112), (⟨false, a0_2, (⟨#[]⟩ : ByteArray)⟩ : S112), (⟨true, 0, a0_3⟩ : S112), (⟨false, a0_4, (⟨#[]⟩ : ByteArray)⟩ : S112), (⟨false, 0, (⟨#[]⟩ : ByteArray)⟩ : S112)] : List (S112)))).bind fun bt198 => ((seal_Seal.f k bt198.1).bind fun bt202 => (some (bt202.1, bt202.2))))) else (some (([] : List Int), 1))) = some (r1, r2) := H
  have A2 := Aside0.mk A20
  clear A20
  by_cases c3 : t182 = true
  · subst c3
    have H1 : (if a0_5 = true then ((pack_Items.f k (([(⟨false, a0_0, (⟨#[]⟩ : ByteArray)⟩ : S112), (⟨false, a0_1, (⟨#[]⟩ : ByteArray)⟩ : S112), (⟨false, a0_2, (⟨#[]⟩ : ByteArray)⟩ : S112), (⟨true, 0, a0_3⟩ : S112), (⟨false, a0_4, (⟨#[]⟩ : ByteArray)⟩ : S112), (⟨false, 1, (⟨#[]⟩ : ByteArray)⟩ : S112)] : List (S112)))).bind fun bt187 => ((seal_Seal.f k bt187.1).bind fun bt191 => (some (bt191.1, bt191.2)))) else ((pack_Items.f k (([(⟨false, a0_0, (⟨#[]⟩ : ByteArray)⟩ : S112), (⟨false, a0_1, (⟨#[]⟩ : ByteArray)⟩ : S112), (⟨false, a0_2, (⟨#[]⟩ : ByteArray)⟩ : S112), (⟨true, 0, a0_3⟩ : S112), (⟨false, a0_4, (⟨#[]⟩ : ByteArray)⟩ : S112), (⟨false, 0, (⟨#[]⟩ : ByteArray)⟩ : S112)] : List (S112)))).bind fun bt198 => ((seal_Seal.f k bt198.1).bind fun bt202 => (some (bt202.1, bt202.2))))) = some (r1, r2) := by rw [if_pos rfl] at H; exact H
    clear H
    have H := H1
    clear H1
    by_cases c4 : a0_5 = true
    · subst c4
      have H1 : ((pack_Items.f k (([(⟨false, a0_0, (⟨#[]⟩ : ByteArray)⟩ : S112), (⟨false, a0_1, (⟨#[]⟩ : ByteArray)⟩ : S112), (⟨false, a0_2, (⟨#[]⟩ : ByteArray)⟩ : S112), (⟨true, 0, a0_3⟩ : S112), (⟨false, a0_4, (⟨#[]⟩ : ByteArray)⟩ : S112), (⟨false, 1, (⟨#[]⟩ : ByteArray)⟩ : S112)] : List (S112)))).bind fun bt187 => ((seal_Seal.f k bt187.1).bind fun bt191 => (some (bt191.1, bt191.2)))) = some (r1, r2) := by rw [if_pos rfl] at H; exact H
      clear H
      have H := H1
      clear H1
      obtain ⟨y184, hy184⟩ : ∃ y_ : List (S112), y_ = (([(⟨false, a0_0, (⟨#[]⟩ : ByteArray)⟩ : S112), (⟨false, a0_1, (⟨#[]⟩ : ByteArray)⟩ : S112), (⟨false, a0_2, (⟨#[]⟩ : ByteArray)⟩ : S112), (⟨true, 0, a0_3⟩ : S112), (⟨false, a0_4, (⟨#[]⟩ : ByteArray)⟩ : S112), (⟨false, 1, (⟨#[]⟩ : ByteArray)⟩ : S112)] : List (S112))) := ⟨_, rfl⟩
      replace H : ((pack_Items.f k y184).bind fun bt187 => ((seal_Seal.f k bt187.1).bind fun bt191 => (some (bt191.1, bt191.2)))) = some (r1, r2) := by first | (rw [hy184]; with_reducible exact H) | (have H2_ := (Option.bind_some _ _).symm.trans H; rw [hy184]; with_reducible exact H2_) | (have H2_ := (Option.bind_some _ _).symm.trans H; with_reducible exact H2_) | with_reducible exact H | (rw [hy184]; exact H) | exact H
      have Ny184 := Aside0.mk hy184
      clear hy184
      replace H := Option.bind_eq_some_iff.mp H
      obtain ⟨⟨t187, t188⟩, A50, H⟩ := H
      replace H : ((seal_Seal.f k t187).bind fun bt191 => (some (bt191.1, bt191.2))) = some (r1, r2) := H
      have A5 := Aside0.mk A50
      clear A50
      replace H := Option.bind_eq_some_iff.mp H
      obtain ⟨⟨t191, t192⟩, A60, H⟩ := H
      replace H : (some (t191, t192)) = some (r1, r2) := H
      have A6 := Aside0.mk A60
      clear A60
      simp only [Option.some.injEq, Prod.mk.injEq] at H
      obtain ⟨rfl, rfl⟩ := H
      go_enter Try.func34, Try.ntmps34
      go_wp2_with (first | ((with_reducible refine gate_dst (N := 1) rfl ?_); refine box_event ?hg (N := 1) ?hd (cs := #[.int .i64 a0_0, .int .i64 a0_1, .int .i64 a0_2, .string a0_3, .int .i64 a0_4, .bool true]) (t := 28) ?hr ?_; (case hd => rfl); (case hg => rfl); (case hr => first | (go_simp; done) | (go_simp; rfl)); intro gb181 hg w7 hbox hb; have n0_ := Aside0.mk (below_step (by repeat (first | (with_reducible first | exact HB.out | apply below_alloc | apply pw_below_drewN | apply below_drew1) | exact HB.out)) hb); have n1_ := Aside0.mk (hbox); have n2_ := Aside0.mk ((by rw [hg]; exact (below_size (by repeat (first | (with_reducible first | exact HB.out | apply below_alloc | apply pw_below_drewN | apply below_drew1) | exact HB.out))) : w.heap.size ≤ gb181)); have n3_ := Aside0.mk ((by rw [hg]; exact (below_size (by repeat (first | (with_reducible first | exact HB.out | apply below_alloc | apply pw_below_drewN | apply below_drew1) | exact HB.out))) : w.heap.size ≤ gb181)); clear HB; have HB := n0_; have BK181 := n1_; have GW181 := n2_; have GE181 := n3_; clear n0_ n1_ n2_ n3_; clear hb hbox hg; have hcz8_0 : w7.cell? ⟨gb181, 0, none⟩ = some (.int .i64 a0_0) := (blk_cell BK181.out 0).trans rfl; have hcz8_1 : w7.cell? ⟨gb181, 1, none⟩ = some (.int .i64 a0_1) := (blk_cell BK181.out 1).trans rfl; have hcz8_2 : w7.cell? ⟨gb181, 2, none⟩ = some (.int .i64 a0_2) := (blk_cell BK181.out 2).trans rfl; have hcz8_3 : w7.cell? ⟨gb181, 3, none⟩ = some (.string a0_3) := (blk_cell BK181.out 3).trans rfl; have hcz8_4 : w7.cell? ⟨gb181, 4, none⟩ = some (.int .i64 a0_4) := (blk_cell BK181.out 4).trans rfl; have hcz8_5 : w7.cell? ⟨gb181, 5, none⟩ = some (.bool true) := (blk_cell BK181.out 5).trans rfl; have hfz8_0 := blk_frozen BK181.out 0; have hfz8_1 := blk_frozen BK181.out 1; have hfz8_2 := blk_frozen BK181.out 2; have hfz8_3 := blk_frozen BK181.out 3; have hfz8_4 := blk_frozen BK181.out 4; have hfz8_5 := blk_frozen BK181.out 5) | ((with_reducible refine gate_callee (f := 36) rfl ?_); refine goesL_ (some 8) rfl rfl Try.func36 (by kernel_rfl) rfl #[.agg #[.int .i64 a0_0, .int .i64 a0_1, .int .i64 a0_2, .string a0_3, .int .i64 a0_4, .bool true]] rfl (by (try simp only [List.map_toArray, List.map_cons, List.map_nil]); first | done | rfl | (simp only [List.length_drop, List.length_take]; rfl)) ?_; (with_reducible refine (outbox_Formed.calls a0_0 a0_1 a0_2 a0_3 a0_4 true true _ A2.out).mono ?_); rintro e w9 ⟨rfl, hb⟩; refine ⟨_, rfl, ?_⟩; have n0_ := Aside0.mk (blk_below (g := gb181) (o := .cells #[.int .i64 a0_0, .int .i64 a0_1, .int .i64 a0_2, .string a0_3, .int .i64 a0_4, .bool true] 28 (0, 0)) (by (with_reducible repeat (first | refine blk_drewN ?_ _ | refine blk_drew ?_ | refine blk_alloc ?_ _)); exact BK181.out) hb); have n1_ := Aside0.mk (below_step (by repeat (first | (with_reducible first | exact HB.out | apply below_alloc | apply pw_below_drewN | apply below_drew1 | refine below_set ?_ GE181.out) | exact HB.out)) hb); clear BK181; clear HB; have BK181 := n0_; have HB := n1_; clear n0_ n1_; (try clear hb); (try clear hb2); (try clear hk); (try clear hi)) | ((with_reducible refine gate_dst (N := 4) rfl ?_); refine box_event ?hg (N := 4) ?hd (cs := #[.bool false, .int .i64 0, .string (⟨#[]⟩ : ByteArray)]) (t := 112) ?hr ?_; (case hd => rfl); (case hg => rfl); (case hr => first | (go_simp; done) | (go_simp; rfl)); intro gb183 hg w10 hbox hb; have n0_ := Aside0.mk (blk_below (g := gb181) (o := .cells #[.int .i64 a0_0, .int .i64 a0_1, .int .i64 a0_2, .string a0_3, .int .i64 a0_4, .bool true] 28 (0, 0)) (by (with_reducible repeat (first | refine blk_drewN ?_ _ | refine blk_drew ?_ | refine blk_alloc ?_ _)); exact BK181.out) hb); have n1_ := Aside0.mk (below_step (by repeat (first | (with_reducible first | exact HB.out | apply below_alloc | apply pw_below_drewN | apply below_drew1 | refine below_set ?_ GE181.out) | exact HB.out)) hb); have n2_ := Aside0.mk (hbox); have n3_ := Aside0.mk ((by rw [hg]; exact (below_size (by repeat (first | (with_reducible first | exact HB.out | apply below_alloc | apply pw_below_drewN | apply below_drew1 | refine below_set ?_ GE181.out) | exact HB.out))) : w.heap.size ≤ gb183)); have n4_ := Aside0.mk ((by rw [hg]; exact (below_size (by repeat (first | (with_reducible first | exact HB.out | apply below_alloc | apply pw_below_drewN | apply below_drew1 | refine below_set ?_ GE181.out) | exact HB.out))) : w.heap.size ≤ gb183)); have n5_ := Aside0.mk ((by rw [hg]; exact Nat.ne_of_lt (blk_lt (g := gb181) (o := .cells #[.int .i64 a0_0, .int .i64 a0_1, .int .i64 a0_2, .string a0_3, .int .i64 a0_4, .bool true] 28 (0, 0)) (by (with_reducible repeat (first | refine blk_drewN ?_ _ | refine blk_drew ?_ | refine blk_alloc ?_ _)); exact BK181.out)) : gb181 ≠ gb183)); have n6_ := Aside0.mk ((by rw [hg]; exact Nat.ne_of_gt (blk_lt (g := gb181) (o := .cells #[.int .i64 a0_0, .int .i64 a0_1, .int .i64 a0_2, .string a0_3, .int .i64 a0_4, .bool true] 28 (0, 0)) (by (with_reducible repeat (first | refine blk_drewN ?_ _ | refine blk_drew ?_ | refine blk_alloc ?_ _)); exact BK181.out)) : gb183 ≠ gb181)); clear BK181; clear HB; have BK181 := n0_; have HB := n1_; have BK183 := n2_; have GW183 := n3_; have GE183 := n4_; have NB181_183 := n5_; have NB183_181 := n6_; clear n0_ n1_ n2_ n3_ n4_ n5_ n6_; clear hb hbox hg; have hnb11 := NB183_181.out; have hnc11 := NB181_183.out; have hcz12_0 : w10.cell? ⟨gb183, 0, none⟩ = some (.bool false) := (blk_cell BK183.out 0).trans rfl; have hww_0 : ((((w10.setCell ⟨gb183, 0, none⟩ (.bool false)).setCell ⟨gb183, 1, none⟩ (.int .i64 0)).setCell ⟨gb183, 2, none⟩ (.string (⟨#[]⟩ : ByteArray))).setCell ⟨gb183, 1, none⟩ (.int .i64 1)).cell? ⟨gb183, 0, none⟩ = some (.bool false) := (blk_cell (blk_put (blk_put (blk_put (blk_put BK183.out 0 (.bool false) rfl) 1 (.int .i64 0) rfl) 2 (.string (⟨#[]⟩ : ByteArray)) rfl) 1 (.int .i64 1) rfl) 0).trans rfl; have hww_1 : ((((w10.setCell ⟨gb183, 0, none⟩ (.bool false)).setCell ⟨gb183, 1, none⟩ (.int .i64 0)).setCell ⟨gb183, 2, none⟩ (.string (⟨#[]⟩ : ByteArray))).setCell ⟨gb183, 1, none⟩ (.int .i64 1)).cell? ⟨gb183, 1, none⟩ = some (.int .i64 1) := (blk_cell (blk_put (blk_put (blk_put (blk_put BK183.out 0 (.bool false) rfl) 1 (.int .i64 0) rfl) 2 (.string (⟨#[]⟩ : ByteArray)) rfl) 1 (.int .i64 1) rfl) 1).trans rfl; have hww_2 : ((((w10.setCell ⟨gb183, 0, none⟩ (.bool false)).setCell ⟨gb183, 1, none⟩ (.int .i64 0)).setCell ⟨gb183, 2, none⟩ (.string (⟨#[]⟩ : ByteArray))).setCell ⟨gb183, 1, none⟩ (.int .i64 1)).cell? ⟨gb183, 2, none⟩ = some (.string (⟨#[]⟩ : ByteArray)) := (blk_cell (blk_put (blk_put (blk_put (blk_put BK183.out 0 (.bool false) rfl) 1 (.int .i64 0) rfl) 2 (.string (⟨#[]⟩ : ByteArray)) rfl) 1 (.int .i64 1) rfl) 2).trans rfl; have hcz12_1 : w10.cell? ⟨gb183, 1, none⟩ = some (.int .i64 0) := (blk_cell BK183.out 1).trans rfl; have hcz12_2 : w10.cell? ⟨gb183, 2, none⟩ = some (.string (⟨#[]⟩ : ByteArray)) := (blk_cell BK183.out 2).trans rfl; have hfz12_0 := blk_frozen BK183.out 0; have hfz12_1 := blk_frozen BK183.out 1; have hfz12_2 := blk_frozen BK183.out 2; have hcz13_0 : w10.cell? ⟨gb181, 0, none⟩ = some (.int .i64 a0_0) := (blk_cell BK181.out 0).trans rfl; have hcz13_1 : w10.cell? ⟨gb181, 1, none⟩ = some (.int .i64 a0_1) := (blk_cell BK181.out 1).trans rfl; have hcz13_2 : w10.cell? ⟨gb181, 2, none⟩ = some (.int .i64 a0_2) := (blk_cell BK181.out 2).trans rfl; have hcz13_3 : w10.cell? ⟨gb181, 3, none⟩ = some (.string a0_3) := (blk_cell BK181.out 3).trans rfl; have hcz13_4 : w10.cell? ⟨gb181, 4, none⟩ = some (.int .i64 a0_4) := (blk_cell BK181.out 4).trans rfl; have hcz13_5 : w10.cell? ⟨gb181, 5, none⟩ = some (.bool true) := (blk_cell BK181.out 5).trans rfl; have hfz13_0 := blk_frozen BK181.out 0; have hfz13_1 := blk_frozen BK181.out 1; have hfz13_2 := blk_frozen BK181.out 2; have hfz13_3 := blk_frozen BK181.out 3; have hfz13_4 := blk_frozen BK181.out 4; have hfz13_5 := blk_frozen BK181.out 5) | ((with_reducible refine gate_dst (N := 31) rfl ?_); refine Kd.R_lit k112 _ 112 ?hg (N := 31) ?hd (xs := ([(⟨false, a0_0, (⟨#[]⟩ : ByteArray)⟩ : S112), (⟨false, a0_1, (⟨#[]⟩ : ByteArray)⟩ : S112), (⟨false, a0_2, (⟨#[]⟩ : ByteArray)⟩ : S112), (⟨true, 0, a0_3⟩ : S112), (⟨false, a0_4, (⟨#[]⟩ : ByteArray)⟩ : S112), (⟨false, 1, (⟨#[]⟩ : ByteArray)⟩ : S112)] : List (S112))) (inner := [.bool false, .int .i64 a0_0, .string (⟨#[]⟩ : ByteArray), .bool false, .int .i64 a0_1, .string (⟨#[]⟩ : ByteArray), .bool false, .int .i64 a0_2, .string (⟨#[]⟩ : ByteArray), .bool true, .int .i64 0, .string a0_3, .bool false, .int .i64 a0_4, .string (⟨#[]⟩ : ByteArray), .bool false, .int .i64 1, .string (⟨#[]⟩ : ByteArray)]) (ok := fun _ => True) (okp := fun _ => True) ?hr ?hp (fun _ hk => hk) trivial (Below.refl _ _) (Nat.le_refl _) (by simp) ?_; (case hd => rfl); (case hg => rfl); (case hr => first | (go_simp; done) | (go_simp; rfl)); (case hp => exact (Reps.c3 (show Kd.M k112 _ _ _ (⟨false, a0_0, (⟨#[]⟩ : ByteArray)⟩ : S112) [.bool false, .int .i64 a0_0, .string (⟨#[]⟩ : ByteArray)] from (k112_mkM _ _ _ (⟨false, a0_0, (⟨#[]⟩ : ByteArray)⟩ : S112) )) (Reps.c3 (show Kd.M k112 _ _ _ (⟨false, a0_1, (⟨#[]⟩ : ByteArray)⟩ : S112) [.bool false, .int .i64 a0_1, .string (⟨#[]⟩ : ByteArray)] from (k112_mkM _ _ _ (⟨false, a0_1, (⟨#[]⟩ : ByteArray)⟩ : S112) )) (Reps.c3 (show Kd.M k112 _ _ _ (⟨false, a0_2, (⟨#[]⟩ : ByteArray)⟩ : S112) [.bool false, .int .i64 a0_2, .string (⟨#[]⟩ : ByteArray)] from (k112_mkM _ _ _ (⟨false, a0_2, (⟨#[]⟩ : ByteArray)⟩ : S112) )) (Reps.c3 (show Kd.M k112 _ _ _ (⟨true, 0, a0_3⟩ : S112) [.bool true, .int .i64 0, .string a0_3] from (k112_mkM _ _ _ (⟨true, 0, a0_3⟩ : S112) )) (Reps.c3 (show Kd.M k112 _ _ _ (⟨false, a0_4, (⟨#[]⟩ : ByteArray)⟩ : S112) [.bool false, .int .i64 a0_4, .string (⟨#[]⟩ : ByteArray)] from (k112_mkM _ _ _ (⟨false, a0_4, (⟨#[]⟩ : ByteArray)⟩ : S112) )) (Reps.c3 (show Kd.M k112 _ _ _ (⟨false, 1, (⟨#[]⟩ : ByteArray)⟩ : S112) [.bool false, .int .i64 1, .string (⟨#[]⟩ : ByteArray)] from (k112_mkM _ _ _ (⟨false, 1, (⟨#[]⟩ : ByteArray)⟩ : S112) )) (Reps.none _ _)))))))); intro v185 w14 ho15 hb hg_ hnew_; clear hg_ hnew_; (first | rw [← Ny184.out] at ho15 | (simp only [Int.reduceToNat] at ho15; rw [← Ny184.out] at ho15)); have n0_ := Aside0.mk (Kd.R_lower (Kd.R_newB ho15 (g := gb183) (o := .cells #[.bool false, .int .i64 1, .string (⟨#[]⟩ : ByteArray)] 112 (0, 0)) (by (with_reducible repeat (first | refine blk_drewN ?_ _ | refine blk_drew ?_ | refine blk_alloc ?_ _)); refine blk_put (cs := #[.bool false, .int .i64 0, .string (⟨#[]⟩ : ByteArray)]) ?_ 1 _ rfl; (with_reducible repeat (first | refine blk_drewN ?_ _ | refine blk_drew ?_ | refine blk_alloc ?_ _)); refine blk_put (cs := #[.bool false, .int .i64 0, .string (⟨#[]⟩ : ByteArray)]) ?_ 2 _ rfl; (with_reducible repeat (first | refine blk_drewN ?_ _ | refine blk_drew ?_ | refine blk_alloc ?_ _)); refine blk_put (cs := #[.bool false, .int .i64 0, .string (⟨#[]⟩ : ByteArray)]) ?_ 1 _ rfl; (with_reducible repeat (first | refine blk_drewN ?_ _ | refine blk_drew ?_ | refine blk_alloc ?_ _)); refine blk_put (cs := #[.bool false, .int .i64 0, .string (⟨#[]⟩ : ByteArray)]) ?_ 0 _ rfl; (with_reducible repeat (first | refine blk_drewN ?_ _ | refine blk_drew ?_ | refine blk_alloc ?_ _)); exact BK183.out)) (below_size (by repeat (first | (with_reducible first | exact HB.out | apply below_alloc | apply pw_below_drewN | apply below_drew1 | refine below_set ?_ GE181.out | refine below_set ?_ GE183.out) | exact HB.out)))); have n1_ := Aside0.mk (blk_below (g := gb181) (o := .cells #[.int .i64 a0_0, .int .i64 a0_1, .int .i64 a0_2, .string a0_3, .int .i64 a0_4, .bool true] 28 (0, 0)) (by (with_reducible repeat (first | refine blk_drewN ?_ _ | refine blk_drew ?_ | refine blk_alloc ?_ _)); refine blk_far ?_ NB181_183.out _; (with_reducible repeat (first | refine blk_drewN ?_ _ | refine blk_drew ?_ | refine blk_alloc ?_ _)); refine blk_far ?_ NB181_183.out _; (with_reducible repeat (first | refine blk_drewN ?_ _ | refine blk_drew ?_ | refine blk_alloc ?_ _)); refine blk_far ?_ NB181_183.out _; (with_reducible repeat (first | refine blk_drewN ?_ _ | refine blk_drew ?_ | refine blk_alloc ?_ _)); refine blk_far ?_ NB181_183.out _; (with_reducible repeat (first | refine blk_drewN ?_ _ | refine blk_drew ?_ | refine blk_alloc ?_ _)); exact BK181.out) hb); have n2_ := Aside0.mk (blk_below (g := gb183) (o := .cells #[.bool false, .int .i64 1, .string (⟨#[]⟩ : ByteArray)] 112 (0, 0)) (by (with_reducible repeat (first | refine blk_drewN ?_ _ | refine blk_drew ?_ | refine blk_alloc ?_ _)); refine blk_put (cs := #[.bool false, .int .i64 0, .string (⟨#[]⟩ : ByteArray)]) ?_ 1 _ rfl; (with_reducible repeat (first | refine blk_drewN ?_ _ | refine blk_drew ?_ | refine blk_alloc ?_ _)); refine blk_put (cs := #[.bool false, .int .i64 0, .string (⟨#[]⟩ : ByteArray)]) ?_ 2 _ rfl; (with_reducible repeat (first | refine blk_drewN ?_ _ | refine blk_drew ?_ | refine blk_alloc ?_ _)); refine blk_put (cs := #[.bool false, .int .i64 0, .string (⟨#[]⟩ : ByteArray)]) ?_ 1 _ rfl; (with_reducible repeat (first | refine blk_drewN ?_ _ | refine blk_drew ?_ | refine blk_alloc ?_ _)); refine blk_put (cs := #[.bool false, .int .i64 0, .string (⟨#[]⟩ : ByteArray)]) ?_ 0 _ rfl; (with_reducible repeat (first | refine blk_drewN ?_ _ | refine blk_drew ?_ | refine blk_alloc ?_ _)); exact BK183.out) hb); have n3_ := Aside0.mk (below_step (by repeat (first | (with_reducible first | exact HB.out | apply below_alloc | apply pw_below_drewN | apply below_drew1 | refine below_set ?_ GE181.out | refine below_set ?_ GE183.out) | exact HB.out)) hb); clear BK181; clear BK183; clear HB; have HO186 := n0_; have BK181 := n1_; have BK183 := n2_; have HB := n3_; clear n0_ n1_ n2_ n3_; clear hb ho15; obtain ⟨Ao16, co16, eo16⟩ := Kd.R_slice HO186.out; subst eo16) | ((with_reducible refine gate_callee (f := 54) rfl ?_); refine goesL_ (some 32) rfl rfl Try.func54 (by kernel_rfl) rfl #[.slice Ao16 y184.length co16] rfl (by (try simp only [List.map_toArray, List.map_cons, List.map_nil]); first | done | rfl | (simp only [List.length_drop, List.length_take]; rfl)) ?_; (with_reducible refine (pack_Items.calls k _ _ y184 t187 t188 _ ?side1 ?side2 A5.out).mono ?_); (case side1 => repeat (first | exact (Kd.R_reads' HO186.out).2.2 | (with_reducible refine Kd.C_alloc ?_ _) | (with_reducible refine Kd.C_drewN ?_ _) | (with_reducible refine Kd.C_drew ?_))); (case side2 => exact (Kd.R_reads' HO186.out).2.1); rintro e w17 ⟨v189, rfl, ho0, hb⟩; refine ⟨_, rfl, ?_⟩; have n0_ := Aside0.mk (Kd.R_below (by (with_reducible repeat (first | apply Kd.R_alloc | apply Kd.R_drewN | apply Kd.R_drew)); exact HO186.out) hb); have n1_ := Aside0.mk (Kd.R_lower ho0 (below_size (by repeat (first | (with_reducible first | exact HB.out | apply below_alloc | apply pw_below_drewN | apply below_drew1 | refine below_set ?_ GE181.out | refine below_set ?_ GE183.out) | exact HB.out)))); have n2_ := Aside0.mk (blk_below (g := gb181) (o := .cells #[.int .i64 a0_0, .int .i64 a0_1, .int .i64 a0_2, .string a0_3, .int .i64 a0_4, .bool true] 28 (0, 0)) (by (with_reducible repeat (first | refine blk_drewN ?_ _ | refine blk_drew ?_ | refine blk_alloc ?_ _)); exact BK181.out) hb); have n3_ := Aside0.mk (blk_below (g := gb183) (o := .cells #[.bool false, .int .i64 1, .string (⟨#[]⟩ : ByteArray)] 112 (0, 0)) (by (with_reducible repeat (first | refine blk_drewN ?_ _ | refine blk_drew ?_ | refine blk_alloc ?_ _)); exact BK183.out) hb); have n4_ := Aside0.mk (below_step (by repeat (first | (with_reducible first | exact HB.out | apply below_alloc | apply pw_below_drewN | apply below_drew1 | refine below_set ?_ GE181.out | refine below_set ?_ GE183.out) | exact HB.out)) hb); clear HO186; clear BK181; clear BK183; clear HB; have HO186 := n0_; have HO190 := n1_; have BK181 := n2_; have BK183 := n3_; have HB := n4_; clear n0_ n1_ n2_ n3_ n4_; (try clear hb); (try clear hb2); (try clear hk); (try clear hi); (try clear ho0); obtain ⟨Ao18, co18, eo18⟩ := Kd.R_slice HO190.out; subst eo18) | ((with_reducible refine gate_callee (f := 55) rfl ?_); refine goesL_ (some 36) rfl rfl Try.func55 (by kernel_rfl) rfl #[.slice Ao18 t187.length co18] rfl (by (try simp only [List.map_toArray, List.map_cons, List.map_nil]); first | done | rfl | (simp only [List.length_drop, List.length_take]; rfl)) ?_; (with_reducible refine (seal_Seal.calls k _ _ t187 t191 t192 _ ?side1 ?side2 A6.out).mono ?_); (case side1 => repeat (first | exact (Kd.R_reads' HO190.out).2.2 | (with_reducible refine Kd.C_alloc ?_ _) | (with_reducible refine Kd.C_drewN ?_ _) | (with_reducible refine Kd.C_drew ?_))); (case side2 => exact (Kd.R_reads' HO190.out).2.1); rintro e w19 ⟨v193, rfl, ho0, hb⟩; refine ⟨_, rfl, ?_⟩; have n0_ := Aside0.mk (Kd.R_below (by (with_reducible repeat (first | apply Kd.R_alloc | apply Kd.R_drewN | apply Kd.R_drew)); exact HO186.out) hb); have n1_ := Aside0.mk (Kd.R_elder' (by (with_reducible repeat (first | apply Kd.R_alloc | apply Kd.R_drewN | apply Kd.R_drew)); exact HO190.out) (Kd.R_base ho0) hb); have n2_ := Aside0.mk (Kd.R_lower (Kd.R_new' ho0 (Kd.R_lt (by (with_reducible repeat (first | apply Kd.R_alloc | apply Kd.R_drewN | apply Kd.R_drew)); exact HO190.out))) (below_size (by repeat (first | (with_reducible first | exact HB.out | apply below_alloc | apply pw_below_drewN | apply below_drew1 | refine below_set ?_ GE181.out | refine below_set ?_ GE183.out) | exact HB.out)))); have n3_ := Aside0.mk (blk_below (g := gb181) (o := .cells #[.int .i64 a0_0, .int .i64 a0_1, .int .i64 a0_2, .string a0_3, .int .i64 a0_4, .bool true] 28 (0, 0)) (by (with_reducible repeat (first | refine blk_drewN ?_ _ | refine blk_drew ?_ | refine blk_alloc ?_ _)); exact BK181.out) hb); have n4_ := Aside0.mk (blk_below (g := gb183) (o := .cells #[.bool false, .int .i64 1, .string (⟨#[]⟩ : ByteArray)] 112 (0, 0)) (by (with_reducible repeat (first | refine blk_drewN ?_ _ | refine blk_drew ?_ | refine blk_alloc ?_ _)); exact BK183.out) hb); have n5_ := Aside0.mk (below_step (by repeat (first | (with_reducible first | exact HB.out | apply below_alloc | apply pw_below_drewN | apply below_drew1 | refine below_set ?_ GE181.out | refine below_set ?_ GE183.out) | exact HB.out)) hb); clear HO186; clear HO190; clear BK181; clear BK183; clear HB; have HO186 := n0_; have HO190 := n1_; have HO194 := n2_; have BK181 := n3_; have BK183 := n4_; have HB := n5_; clear n0_ n1_ n2_ n3_ n4_ n5_; (try clear hb); (try clear hb2); (try clear hk); (try clear hi); (try clear ho0)))
      go_ret2
      exact ⟨_, by first | rfl | (simp [errW_none, errW_some] <;> rfl) | (simp [*, errW_none, errW_some] <;> rfl), by (with_reducible repeat (first | apply Kd.R_alloc | apply Kd.R_drewN | apply Kd.R_drew)); exact Kd.R_mono HO194.out (fun _ hk => trivial), by repeat (first | (with_reducible first | exact HB.out | apply below_alloc | apply pw_below_drewN | apply below_drew1 | refine below_set ?_ GE181.out | refine below_set ?_ GE183.out) | exact HB.out)⟩
    · replace c4 := Bool.eq_false_iff.mpr c4
      subst c4
      have H1 : ((pack_Items.f k (([(⟨false, a0_0, (⟨#[]⟩ : ByteArray)⟩ : S112), (⟨false, a0_1, (⟨#[]⟩ : ByteArray)⟩ : S112), (⟨false, a0_2, (⟨#[]⟩ : ByteArray)⟩ : S112), (⟨true, 0, a0_3⟩ : S112), (⟨false, a0_4, (⟨#[]⟩ : ByteArray)⟩ : S112), (⟨false, 0, (⟨#[]⟩ : ByteArray)⟩ : S112)] : List (S112)))).bind fun bt198 => ((seal_Seal.f k bt198.1).bind fun bt202 => (some (bt202.1, bt202.2)))) = some (r1, r2) := by rw [if_neg (show ¬ (false = true) by decide)] at H; exact H
      clear H
      have H := H1
      clear H1
      obtain ⟨y195, hy195⟩ : ∃ y_ : List (S112), y_ = (([(⟨false, a0_0, (⟨#[]⟩ : ByteArray)⟩ : S112), (⟨false, a0_1, (⟨#[]⟩ : ByteArray)⟩ : S112), (⟨false, a0_2, (⟨#[]⟩ : ByteArray)⟩ : S112), (⟨true, 0, a0_3⟩ : S112), (⟨false, a0_4, (⟨#[]⟩ : ByteArray)⟩ : S112), (⟨false, 0, (⟨#[]⟩ : ByteArray)⟩ : S112)] : List (S112))) := ⟨_, rfl⟩
      replace H : ((pack_Items.f k y195).bind fun bt198 => ((seal_Seal.f k bt198.1).bind fun bt202 => (some (bt202.1, bt202.2)))) = some (r1, r2) := by first | (rw [hy195]; with_reducible exact H) | (have H2_ := (Option.bind_some _ _).symm.trans H; rw [hy195]; with_reducible exact H2_) | (have H2_ := (Option.bind_some _ _).symm.trans H; with_reducible exact H2_) | with_reducible exact H | (rw [hy195]; exact H) | exact H
      have Ny195 := Aside0.mk hy195
      clear hy195
      replace H := Option.bind_eq_some_iff.mp H
      obtain ⟨⟨t198, t199⟩, A200, H⟩ := H
      replace H : ((seal_Seal.f k t198).bind fun bt202 => (some (bt202.1, bt202.2))) = some (r1, r2) := H
      have A20 := Aside0.mk A200
      clear A200
      replace H := Option.bind_eq_some_iff.mp H
      obtain ⟨⟨t202, t203⟩, A210, H⟩ := H
      replace H : (some (t202, t203)) = some (r1, r2) := H
      have A21 := Aside0.mk A210
      clear A210
      simp only [Option.some.injEq, Prod.mk.injEq] at H
      obtain ⟨rfl, rfl⟩ := H
      go_enter Try.func34, Try.ntmps34
      go_wp2_with (first | ((with_reducible refine gate_dst (N := 1) rfl ?_); refine box_event ?hg (N := 1) ?hd (cs := #[.int .i64 a0_0, .int .i64 a0_1, .int .i64 a0_2, .string a0_3, .int .i64 a0_4, .bool false]) (t := 28) ?hr ?_; (case hd => rfl); (case hg => rfl); (case hr => first | (go_simp; done) | (go_simp; rfl)); intro gb181 hg w22 hbox hb; have n0_ := Aside0.mk (below_step (by repeat (first | (with_reducible first | exact HB.out | apply below_alloc | apply pw_below_drewN | apply below_drew1) | exact HB.out)) hb); have n1_ := Aside0.mk (hbox); have n2_ := Aside0.mk ((by rw [hg]; exact (below_size (by repeat (first | (with_reducible first | exact HB.out | apply below_alloc | apply pw_below_drewN | apply below_drew1) | exact HB.out))) : w.heap.size ≤ gb181)); have n3_ := Aside0.mk ((by rw [hg]; exact (below_size (by repeat (first | (with_reducible first | exact HB.out | apply below_alloc | apply pw_below_drewN | apply below_drew1) | exact HB.out))) : w.heap.size ≤ gb181)); clear HB; have HB := n0_; have BK181 := n1_; have GW181 := n2_; have GE181 := n3_; clear n0_ n1_ n2_ n3_; clear hb hbox hg; have hcz23_0 : w22.cell? ⟨gb181, 0, none⟩ = some (.int .i64 a0_0) := (blk_cell BK181.out 0).trans rfl; have hcz23_1 : w22.cell? ⟨gb181, 1, none⟩ = some (.int .i64 a0_1) := (blk_cell BK181.out 1).trans rfl; have hcz23_2 : w22.cell? ⟨gb181, 2, none⟩ = some (.int .i64 a0_2) := (blk_cell BK181.out 2).trans rfl; have hcz23_3 : w22.cell? ⟨gb181, 3, none⟩ = some (.string a0_3) := (blk_cell BK181.out 3).trans rfl; have hcz23_4 : w22.cell? ⟨gb181, 4, none⟩ = some (.int .i64 a0_4) := (blk_cell BK181.out 4).trans rfl; have hcz23_5 : w22.cell? ⟨gb181, 5, none⟩ = some (.bool false) := (blk_cell BK181.out 5).trans rfl; have hfz23_0 := blk_frozen BK181.out 0; have hfz23_1 := blk_frozen BK181.out 1; have hfz23_2 := blk_frozen BK181.out 2; have hfz23_3 := blk_frozen BK181.out 3; have hfz23_4 := blk_frozen BK181.out 4; have hfz23_5 := blk_frozen BK181.out 5) | ((with_reducible refine gate_callee (f := 36) rfl ?_); refine goesL_ (some 8) rfl rfl Try.func36 (by kernel_rfl) rfl #[.agg #[.int .i64 a0_0, .int .i64 a0_1, .int .i64 a0_2, .string a0_3, .int .i64 a0_4, .bool false]] rfl (by (try simp only [List.map_toArray, List.map_cons, List.map_nil]); first | done | rfl | (simp only [List.length_drop, List.length_take]; rfl)) ?_; (with_reducible refine (outbox_Formed.calls a0_0 a0_1 a0_2 a0_3 a0_4 false true _ A2.out).mono ?_); rintro e w24 ⟨rfl, hb⟩; refine ⟨_, rfl, ?_⟩; have n0_ := Aside0.mk (blk_below (g := gb181) (o := .cells #[.int .i64 a0_0, .int .i64 a0_1, .int .i64 a0_2, .string a0_3, .int .i64 a0_4, .bool false] 28 (0, 0)) (by (with_reducible repeat (first | refine blk_drewN ?_ _ | refine blk_drew ?_ | refine blk_alloc ?_ _)); exact BK181.out) hb); have n1_ := Aside0.mk (below_step (by repeat (first | (with_reducible first | exact HB.out | apply below_alloc | apply pw_below_drewN | apply below_drew1 | refine below_set ?_ GE181.out) | exact HB.out)) hb); clear BK181; clear HB; have BK181 := n0_; have HB := n1_; clear n0_ n1_; (try clear hb); (try clear hb2); (try clear hk); (try clear hi)) | ((with_reducible refine gate_dst (N := 4) rfl ?_); refine box_event ?hg (N := 4) ?hd (cs := #[.bool false, .int .i64 0, .string (⟨#[]⟩ : ByteArray)]) (t := 112) ?hr ?_; (case hd => rfl); (case hg => rfl); (case hr => first | (go_simp; done) | (go_simp; rfl)); intro gb183 hg w25 hbox hb; have n0_ := Aside0.mk (blk_below (g := gb181) (o := .cells #[.int .i64 a0_0, .int .i64 a0_1, .int .i64 a0_2, .string a0_3, .int .i64 a0_4, .bool false] 28 (0, 0)) (by (with_reducible repeat (first | refine blk_drewN ?_ _ | refine blk_drew ?_ | refine blk_alloc ?_ _)); exact BK181.out) hb); have n1_ := Aside0.mk (below_step (by repeat (first | (with_reducible first | exact HB.out | apply below_alloc | apply pw_below_drewN | apply below_drew1 | refine below_set ?_ GE181.out) | exact HB.out)) hb); have n2_ := Aside0.mk (hbox); have n3_ := Aside0.mk ((by rw [hg]; exact (below_size (by repeat (first | (with_reducible first | exact HB.out | apply below_alloc | apply pw_below_drewN | apply below_drew1 | refine below_set ?_ GE181.out) | exact HB.out))) : w.heap.size ≤ gb183)); have n4_ := Aside0.mk ((by rw [hg]; exact (below_size (by repeat (first | (with_reducible first | exact HB.out | apply below_alloc | apply pw_below_drewN | apply below_drew1 | refine below_set ?_ GE181.out) | exact HB.out))) : w.heap.size ≤ gb183)); have n5_ := Aside0.mk ((by rw [hg]; exact Nat.ne_of_lt (blk_lt (g := gb181) (o := .cells #[.int .i64 a0_0, .int .i64 a0_1, .int .i64 a0_2, .string a0_3, .int .i64 a0_4, .bool false] 28 (0, 0)) (by (with_reducible repeat (first | refine blk_drewN ?_ _ | refine blk_drew ?_ | refine blk_alloc ?_ _)); exact BK181.out)) : gb181 ≠ gb183)); have n6_ := Aside0.mk ((by rw [hg]; exact Nat.ne_of_gt (blk_lt (g := gb181) (o := .cells #[.int .i64 a0_0, .int .i64 a0_1, .int .i64 a0_2, .string a0_3, .int .i64 a0_4, .bool false] 28 (0, 0)) (by (with_reducible repeat (first | refine blk_drewN ?_ _ | refine blk_drew ?_ | refine blk_alloc ?_ _)); exact BK181.out)) : gb183 ≠ gb181)); clear BK181; clear HB; have BK181 := n0_; have HB := n1_; have BK183 := n2_; have GW183 := n3_; have GE183 := n4_; have NB181_183 := n5_; have NB183_181 := n6_; clear n0_ n1_ n2_ n3_ n4_ n5_ n6_; clear hb hbox hg; have hnb26 := NB183_181.out; have hnc26 := NB181_183.out; have hcz27_0 : w25.cell? ⟨gb183, 0, none⟩ = some (.bool false) := (blk_cell BK183.out 0).trans rfl; have hww_0 : ((((w25.setCell ⟨gb183, 0, none⟩ (.bool false)).setCell ⟨gb183, 1, none⟩ (.int .i64 0)).setCell ⟨gb183, 2, none⟩ (.string (⟨#[]⟩ : ByteArray))).setCell ⟨gb183, 1, none⟩ (.int .i64 1)).cell? ⟨gb183, 0, none⟩ = some (.bool false) := (blk_cell (blk_put (blk_put (blk_put (blk_put BK183.out 0 (.bool false) rfl) 1 (.int .i64 0) rfl) 2 (.string (⟨#[]⟩ : ByteArray)) rfl) 1 (.int .i64 1) rfl) 0).trans rfl; have hww_1 : ((((w25.setCell ⟨gb183, 0, none⟩ (.bool false)).setCell ⟨gb183, 1, none⟩ (.int .i64 0)).setCell ⟨gb183, 2, none⟩ (.string (⟨#[]⟩ : ByteArray))).setCell ⟨gb183, 1, none⟩ (.int .i64 1)).cell? ⟨gb183, 1, none⟩ = some (.int .i64 1) := (blk_cell (blk_put (blk_put (blk_put (blk_put BK183.out 0 (.bool false) rfl) 1 (.int .i64 0) rfl) 2 (.string (⟨#[]⟩ : ByteArray)) rfl) 1 (.int .i64 1) rfl) 1).trans rfl; have hww_2 : ((((w25.setCell ⟨gb183, 0, none⟩ (.bool false)).setCell ⟨gb183, 1, none⟩ (.int .i64 0)).setCell ⟨gb183, 2, none⟩ (.string (⟨#[]⟩ : ByteArray))).setCell ⟨gb183, 1, none⟩ (.int .i64 1)).cell? ⟨gb183, 2, none⟩ = some (.string (⟨#[]⟩ : ByteArray)) := (blk_cell (blk_put (blk_put (blk_put (blk_put BK183.out 0 (.bool false) rfl) 1 (.int .i64 0) rfl) 2 (.string (⟨#[]⟩ : ByteArray)) rfl) 1 (.int .i64 1) rfl) 2).trans rfl; have hcz27_1 : w25.cell? ⟨gb183, 1, none⟩ = some (.int .i64 0) := (blk_cell BK183.out 1).trans rfl; have hcz27_2 : w25.cell? ⟨gb183, 2, none⟩ = some (.string (⟨#[]⟩ : ByteArray)) := (blk_cell BK183.out 2).trans rfl; have hfz27_0 := blk_frozen BK183.out 0; have hfz27_1 := blk_frozen BK183.out 1; have hfz27_2 := blk_frozen BK183.out 2; have hcz28_0 : w25.cell? ⟨gb181, 0, none⟩ = some (.int .i64 a0_0) := (blk_cell BK181.out 0).trans rfl; have hcz28_1 : w25.cell? ⟨gb181, 1, none⟩ = some (.int .i64 a0_1) := (blk_cell BK181.out 1).trans rfl; have hcz28_2 : w25.cell? ⟨gb181, 2, none⟩ = some (.int .i64 a0_2) := (blk_cell BK181.out 2).trans rfl; have hcz28_3 : w25.cell? ⟨gb181, 3, none⟩ = some (.string a0_3) := (blk_cell BK181.out 3).trans rfl; have hcz28_4 : w25.cell? ⟨gb181, 4, none⟩ = some (.int .i64 a0_4) := (blk_cell BK181.out 4).trans rfl; have hcz28_5 : w25.cell? ⟨gb181, 5, none⟩ = some (.bool false) := (blk_cell BK181.out 5).trans rfl; have hfz28_0 := blk_frozen BK181.out 0; have hfz28_1 := blk_frozen BK181.out 1; have hfz28_2 := blk_frozen BK181.out 2; have hfz28_3 := blk_frozen BK181.out 3; have hfz28_4 := blk_frozen BK181.out 4; have hfz28_5 := blk_frozen BK181.out 5) | ((with_reducible refine gate_dst (N := 31) rfl ?_); refine Kd.R_lit k112 _ 112 ?hg (N := 31) ?hd (xs := ([(⟨false, a0_0, (⟨#[]⟩ : ByteArray)⟩ : S112), (⟨false, a0_1, (⟨#[]⟩ : ByteArray)⟩ : S112), (⟨false, a0_2, (⟨#[]⟩ : ByteArray)⟩ : S112), (⟨true, 0, a0_3⟩ : S112), (⟨false, a0_4, (⟨#[]⟩ : ByteArray)⟩ : S112), (⟨false, 0, (⟨#[]⟩ : ByteArray)⟩ : S112)] : List (S112))) (inner := [.bool false, .int .i64 a0_0, .string (⟨#[]⟩ : ByteArray), .bool false, .int .i64 a0_1, .string (⟨#[]⟩ : ByteArray), .bool false, .int .i64 a0_2, .string (⟨#[]⟩ : ByteArray), .bool true, .int .i64 0, .string a0_3, .bool false, .int .i64 a0_4, .string (⟨#[]⟩ : ByteArray), .bool false, .int .i64 0, .string (⟨#[]⟩ : ByteArray)]) (ok := fun _ => True) (okp := fun _ => True) ?hr ?hp (fun _ hk => hk) trivial (Below.refl _ _) (Nat.le_refl _) (by simp) ?_; (case hd => rfl); (case hg => rfl); (case hr => first | (go_simp; done) | (go_simp; rfl)); (case hp => exact (Reps.c3 (show Kd.M k112 _ _ _ (⟨false, a0_0, (⟨#[]⟩ : ByteArray)⟩ : S112) [.bool false, .int .i64 a0_0, .string (⟨#[]⟩ : ByteArray)] from (k112_mkM _ _ _ (⟨false, a0_0, (⟨#[]⟩ : ByteArray)⟩ : S112) )) (Reps.c3 (show Kd.M k112 _ _ _ (⟨false, a0_1, (⟨#[]⟩ : ByteArray)⟩ : S112) [.bool false, .int .i64 a0_1, .string (⟨#[]⟩ : ByteArray)] from (k112_mkM _ _ _ (⟨false, a0_1, (⟨#[]⟩ : ByteArray)⟩ : S112) )) (Reps.c3 (show Kd.M k112 _ _ _ (⟨false, a0_2, (⟨#[]⟩ : ByteArray)⟩ : S112) [.bool false, .int .i64 a0_2, .string (⟨#[]⟩ : ByteArray)] from (k112_mkM _ _ _ (⟨false, a0_2, (⟨#[]⟩ : ByteArray)⟩ : S112) )) (Reps.c3 (show Kd.M k112 _ _ _ (⟨true, 0, a0_3⟩ : S112) [.bool true, .int .i64 0, .string a0_3] from (k112_mkM _ _ _ (⟨true, 0, a0_3⟩ : S112) )) (Reps.c3 (show Kd.M k112 _ _ _ (⟨false, a0_4, (⟨#[]⟩ : ByteArray)⟩ : S112) [.bool false, .int .i64 a0_4, .string (⟨#[]⟩ : ByteArray)] from (k112_mkM _ _ _ (⟨false, a0_4, (⟨#[]⟩ : ByteArray)⟩ : S112) )) (Reps.c3 (show Kd.M k112 _ _ _ (⟨false, 0, (⟨#[]⟩ : ByteArray)⟩ : S112) [.bool false, .int .i64 0, .string (⟨#[]⟩ : ByteArray)] from (k112_mkM _ _ _ (⟨false, 0, (⟨#[]⟩ : ByteArray)⟩ : S112) )) (Reps.none _ _)))))))); intro v196 w29 ho30 hb hg_ hnew_; clear hg_ hnew_; (first | rw [← Ny195.out] at ho30 | (simp only [Int.reduceToNat] at ho30; rw [← Ny195.out] at ho30)); have n0_ := Aside0.mk (Kd.R_lower (Kd.R_newB ho30 (g := gb183) (o := .cells #[.bool false, .int .i64 0, .string (⟨#[]⟩ : ByteArray)] 112 (0, 0)) (by (with_reducible repeat (first | refine blk_drewN ?_ _ | refine blk_drew ?_ | refine blk_alloc ?_ _)); refine blk_put (cs := #[.bool false, .int .i64 0, .string (⟨#[]⟩ : ByteArray)]) ?_ 2 _ rfl; (with_reducible repeat (first | refine blk_drewN ?_ _ | refine blk_drew ?_ | refine blk_alloc ?_ _)); refine blk_put (cs := #[.bool false, .int .i64 0, .string (⟨#[]⟩ : ByteArray)]) ?_ 1 _ rfl; (with_reducible repeat (first | refine blk_drewN ?_ _ | refine blk_drew ?_ | refine blk_alloc ?_ _)); refine blk_put (cs := #[.bool false, .int .i64 0, .string (⟨#[]⟩ : ByteArray)]) ?_ 0 _ rfl; (with_reducible repeat (first | refine blk_drewN ?_ _ | refine blk_drew ?_ | refine blk_alloc ?_ _)); exact BK183.out)) (below_size (by repeat (first | (with_reducible first | exact HB.out | apply below_alloc | apply pw_below_drewN | apply below_drew1 | refine below_set ?_ GE181.out | refine below_set ?_ GE183.out) | exact HB.out)))); have n1_ := Aside0.mk (blk_below (g := gb181) (o := .cells #[.int .i64 a0_0, .int .i64 a0_1, .int .i64 a0_2, .string a0_3, .int .i64 a0_4, .bool false] 28 (0, 0)) (by (with_reducible repeat (first | refine blk_drewN ?_ _ | refine blk_drew ?_ | refine blk_alloc ?_ _)); refine blk_far ?_ NB181_183.out _; (with_reducible repeat (first | refine blk_drewN ?_ _ | refine blk_drew ?_ | refine blk_alloc ?_ _)); refine blk_far ?_ NB181_183.out _; (with_reducible repeat (first | refine blk_drewN ?_ _ | refine blk_drew ?_ | refine blk_alloc ?_ _)); refine blk_far ?_ NB181_183.out _; (with_reducible repeat (first | refine blk_drewN ?_ _ | refine blk_drew ?_ | refine blk_alloc ?_ _)); exact BK181.out) hb); have n2_ := Aside0.mk (blk_below (g := gb183) (o := .cells #[.bool false, .int .i64 0, .string (⟨#[]⟩ : ByteArray)] 112 (0, 0)) (by (with_reducible repeat (first | refine blk_drewN ?_ _ | refine blk_drew ?_ | refine blk_alloc ?_ _)); refine blk_put (cs := #[.bool false, .int .i64 0, .string (⟨#[]⟩ : ByteArray)]) ?_ 2 _ rfl; (with_reducible repeat (first | refine blk_drewN ?_ _ | refine blk_drew ?_ | refine blk_alloc ?_ _)); refine blk_put (cs := #[.bool false, .int .i64 0, .string (⟨#[]⟩ : ByteArray)]) ?_ 1 _ rfl; (with_reducible repeat (first | refine blk_drewN ?_ _ | refine blk_drew ?_ | refine blk_alloc ?_ _)); refine blk_put (cs := #[.bool false, .int .i64 0, .string (⟨#[]⟩ : ByteArray)]) ?_ 0 _ rfl; (with_reducible repeat (first | refine blk_drewN ?_ _ | refine blk_drew ?_ | refine blk_alloc ?_ _)); exact BK183.out) hb); have n3_ := Aside0.mk (below_step (by repeat (first | (with_reducible first | exact HB.out | apply below_alloc | apply pw_below_drewN | apply below_drew1 | refine below_set ?_ GE181.out | refine below_set ?_ GE183.out) | exact HB.out)) hb); clear BK181; clear BK183; clear HB; have HO197 := n0_; have BK181 := n1_; have BK183 := n2_; have HB := n3_; clear n0_ n1_ n2_ n3_; clear hb ho30; obtain ⟨Ao31, co31, eo31⟩ := Kd.R_slice HO197.out; subst eo31) | ((with_reducible refine gate_callee (f := 54) rfl ?_); refine goesL_ (some 32) rfl rfl Try.func54 (by kernel_rfl) rfl #[.slice Ao31 y195.length co31] rfl (by (try simp only [List.map_toArray, List.map_cons, List.map_nil]); first | done | rfl | (simp only [List.length_drop, List.length_take]; rfl)) ?_; (with_reducible refine (pack_Items.calls k _ _ y195 t198 t199 _ ?side1 ?side2 A20.out).mono ?_); (case side1 => repeat (first | exact (Kd.R_reads' HO197.out).2.2 | (with_reducible refine Kd.C_alloc ?_ _) | (with_reducible refine Kd.C_drewN ?_ _) | (with_reducible refine Kd.C_drew ?_))); (case side2 => exact (Kd.R_reads' HO197.out).2.1); rintro e w32 ⟨v200, rfl, ho0, hb⟩; refine ⟨_, rfl, ?_⟩; have n0_ := Aside0.mk (Kd.R_below (by (with_reducible repeat (first | apply Kd.R_alloc | apply Kd.R_drewN | apply Kd.R_drew)); exact HO197.out) hb); have n1_ := Aside0.mk (Kd.R_lower ho0 (below_size (by repeat (first | (with_reducible first | exact HB.out | apply below_alloc | apply pw_below_drewN | apply below_drew1 | refine below_set ?_ GE181.out | refine below_set ?_ GE183.out) | exact HB.out)))); have n2_ := Aside0.mk (blk_below (g := gb181) (o := .cells #[.int .i64 a0_0, .int .i64 a0_1, .int .i64 a0_2, .string a0_3, .int .i64 a0_4, .bool false] 28 (0, 0)) (by (with_reducible repeat (first | refine blk_drewN ?_ _ | refine blk_drew ?_ | refine blk_alloc ?_ _)); exact BK181.out) hb); have n3_ := Aside0.mk (blk_below (g := gb183) (o := .cells #[.bool false, .int .i64 0, .string (⟨#[]⟩ : ByteArray)] 112 (0, 0)) (by (with_reducible repeat (first | refine blk_drewN ?_ _ | refine blk_drew ?_ | refine blk_alloc ?_ _)); exact BK183.out) hb); have n4_ := Aside0.mk (below_step (by repeat (first | (with_reducible first | exact HB.out | apply below_alloc | apply pw_below_drewN | apply below_drew1 | refine below_set ?_ GE181.out | refine below_set ?_ GE183.out) | exact HB.out)) hb); clear HO197; clear BK181; clear BK183; clear HB; have HO197 := n0_; have HO201 := n1_; have BK181 := n2_; have BK183 := n3_; have HB := n4_; clear n0_ n1_ n2_ n3_ n4_; (try clear hb); (try clear hb2); (try clear hk); (try clear hi); (try clear ho0); obtain ⟨Ao33, co33, eo33⟩ := Kd.R_slice HO201.out; subst eo33) | ((with_reducible refine gate_callee (f := 55) rfl ?_); refine goesL_ (some 36) rfl rfl Try.func55 (by kernel_rfl) rfl #[.slice Ao33 t198.length co33] rfl (by (try simp only [List.map_toArray, List.map_cons, List.map_nil]); first | done | rfl | (simp only [List.length_drop, List.length_take]; rfl)) ?_; (with_reducible refine (seal_Seal.calls k _ _ t198 t202 t203 _ ?side1 ?side2 A21.out).mono ?_); (case side1 => repeat (first | exact (Kd.R_reads' HO201.out).2.2 | (with_reducible refine Kd.C_alloc ?_ _) | (with_reducible refine Kd.C_drewN ?_ _) | (with_reducible refine Kd.C_drew ?_))); (case side2 => exact (Kd.R_reads' HO201.out).2.1); rintro e w34 ⟨v204, rfl, ho0, hb⟩; refine ⟨_, rfl, ?_⟩; have n0_ := Aside0.mk (Kd.R_below (by (with_reducible repeat (first | apply Kd.R_alloc | apply Kd.R_drewN | apply Kd.R_drew)); exact HO197.out) hb); have n1_ := Aside0.mk (Kd.R_elder' (by (with_reducible repeat (first | apply Kd.R_alloc | apply Kd.R_drewN | apply Kd.R_drew)); exact HO201.out) (Kd.R_base ho0) hb); have n2_ := Aside0.mk (Kd.R_lower (Kd.R_new' ho0 (Kd.R_lt (by (with_reducible repeat (first | apply Kd.R_alloc | apply Kd.R_drewN | apply Kd.R_drew)); exact HO201.out))) (below_size (by repeat (first | (with_reducible first | exact HB.out | apply below_alloc | apply pw_below_drewN | apply below_drew1 | refine below_set ?_ GE181.out | refine below_set ?_ GE183.out) | exact HB.out)))); have n3_ := Aside0.mk (blk_below (g := gb181) (o := .cells #[.int .i64 a0_0, .int .i64 a0_1, .int .i64 a0_2, .string a0_3, .int .i64 a0_4, .bool false] 28 (0, 0)) (by (with_reducible repeat (first | refine blk_drewN ?_ _ | refine blk_drew ?_ | refine blk_alloc ?_ _)); exact BK181.out) hb); have n4_ := Aside0.mk (blk_below (g := gb183) (o := .cells #[.bool false, .int .i64 0, .string (⟨#[]⟩ : ByteArray)] 112 (0, 0)) (by (with_reducible repeat (first | refine blk_drewN ?_ _ | refine blk_drew ?_ | refine blk_alloc ?_ _)); exact BK183.out) hb); have n5_ := Aside0.mk (below_step (by repeat (first | (with_reducible first | exact HB.out | apply below_alloc | apply pw_below_drewN | apply below_drew1 | refine below_set ?_ GE181.out | refine below_set ?_ GE183.out) | exact HB.out)) hb); clear HO197; clear HO201; clear BK181; clear BK183; clear HB; have HO197 := n0_; have HO201 := n1_; have HO205 := n2_; have BK181 := n3_; have BK183 := n4_; have HB := n5_; clear n0_ n1_ n2_ n3_ n4_ n5_; (try clear hb); (try clear hb2); (try clear hk); (try clear hi); (try clear ho0)))
      go_ret2
      exact ⟨_, by first | rfl | (simp [errW_none, errW_some] <;> rfl) | (simp [*, errW_none, errW_some] <;> rfl), by (with_reducible repeat (first | apply Kd.R_alloc | apply Kd.R_drewN | apply Kd.R_drew)); exact Kd.R_mono HO205.out (fun _ hk => trivial), by repeat (first | (with_reducible first | exact HB.out | apply below_alloc | apply pw_below_drewN | apply below_drew1 | refine below_set ?_ GE181.out | refine below_set ?_ GE183.out) | exact HB.out)⟩
  · replace c3 := Bool.eq_false_iff.mpr c3
    subst c3
    have H1 : (some (([] : List Int), 1)) = some (r1, r2) := by rw [if_neg (show ¬ (false = true) by decide)] at H; exact H
    clear H
    have H := H1
    clear H1
    simp only [Option.some.injEq, Prod.mk.injEq] at H
    obtain ⟨rfl, rfl⟩ := H
    go_enter Try.func34, Try.ntmps34
    go_wp2_with (first | ((with_reducible refine gate_dst (N := 1) rfl ?_); refine box_event ?hg (N := 1) ?hd (cs := #[.int .i64 a0_0, .int .i64 a0_1, .int .i64 a0_2, .string a0_3, .int .i64 a0_4, .bool a0_5]) (t := 28) ?hr ?_; (case hd => rfl); (case hg => rfl); (case hr => first | (go_simp; done) | (go_simp; rfl)); intro gb181 hg w35 hbox hb; have n0_ := Aside0.mk (below_step (by repeat (first | (with_reducible first | exact HB.out | apply below_alloc | apply pw_below_drewN | apply below_drew1) | exact HB.out)) hb); have n1_ := Aside0.mk (hbox); have n2_ := Aside0.mk ((by rw [hg]; exact (below_size (by repeat (first | (with_reducible first | exact HB.out | apply below_alloc | apply pw_below_drewN | apply below_drew1) | exact HB.out))) : w.heap.size ≤ gb181)); have n3_ := Aside0.mk ((by rw [hg]; exact (below_size (by repeat (first | (with_reducible first | exact HB.out | apply below_alloc | apply pw_below_drewN | apply below_drew1) | exact HB.out))) : w.heap.size ≤ gb181)); clear HB; have HB := n0_; have BK181 := n1_; have GW181 := n2_; have GE181 := n3_; clear n0_ n1_ n2_ n3_; clear hb hbox hg; have hcz36_0 : w35.cell? ⟨gb181, 0, none⟩ = some (.int .i64 a0_0) := (blk_cell BK181.out 0).trans rfl; have hcz36_1 : w35.cell? ⟨gb181, 1, none⟩ = some (.int .i64 a0_1) := (blk_cell BK181.out 1).trans rfl; have hcz36_2 : w35.cell? ⟨gb181, 2, none⟩ = some (.int .i64 a0_2) := (blk_cell BK181.out 2).trans rfl; have hcz36_3 : w35.cell? ⟨gb181, 3, none⟩ = some (.string a0_3) := (blk_cell BK181.out 3).trans rfl; have hcz36_4 : w35.cell? ⟨gb181, 4, none⟩ = some (.int .i64 a0_4) := (blk_cell BK181.out 4).trans rfl; have hcz36_5 : w35.cell? ⟨gb181, 5, none⟩ = some (.bool a0_5) := (blk_cell BK181.out 5).trans rfl; have hfz36_0 := blk_frozen BK181.out 0; have hfz36_1 := blk_frozen BK181.out 1; have hfz36_2 := blk_frozen BK181.out 2; have hfz36_3 := blk_frozen BK181.out 3; have hfz36_4 := blk_frozen BK181.out 4; have hfz36_5 := blk_frozen BK181.out 5) | ((with_reducible refine gate_callee (f := 36) rfl ?_); refine goesL_ (some 8) rfl rfl Try.func36 (by kernel_rfl) rfl #[.agg #[.int .i64 a0_0, .int .i64 a0_1, .int .i64 a0_2, .string a0_3, .int .i64 a0_4, .bool a0_5]] rfl (by (try simp only [List.map_toArray, List.map_cons, List.map_nil]); first | done | rfl | (simp only [List.length_drop, List.length_take]; rfl)) ?_; (with_reducible refine (outbox_Formed.calls a0_0 a0_1 a0_2 a0_3 a0_4 a0_5 false _ A2.out).mono ?_); rintro e w37 ⟨rfl, hb⟩; refine ⟨_, rfl, ?_⟩; have n0_ := Aside0.mk (blk_below (g := gb181) (o := .cells #[.int .i64 a0_0, .int .i64 a0_1, .int .i64 a0_2, .string a0_3, .int .i64 a0_4, .bool a0_5] 28 (0, 0)) (by (with_reducible repeat (first | refine blk_drewN ?_ _ | refine blk_drew ?_ | refine blk_alloc ?_ _)); exact BK181.out) hb); have n1_ := Aside0.mk (below_step (by repeat (first | (with_reducible first | exact HB.out | apply below_alloc | apply pw_below_drewN | apply below_drew1 | refine below_set ?_ GE181.out) | exact HB.out)) hb); clear BK181; clear HB; have BK181 := n0_; have HB := n1_; clear n0_ n1_; (try clear hb); (try clear hb2); (try clear hk); (try clear hi)))
    go_ret2
    exact ⟨_, by first | rfl | (simp [errW_none, errW_some] <;> rfl) | (simp [*, errW_none, errW_some] <;> rfl), by first | exact Kd.R_nil _ _ _ _ _ | exact Kd.N_nil _ _ _ _ _ | exact Kd.V_nil _ _ _ _ _ | exact Kd.Q_nil _ _ _ _ _ | exact Kd.S_nil _ _ _ _ _, by repeat (first | (with_reducible first | exact HB.out | apply below_alloc | apply pw_below_drewN | apply below_drew1 | refine below_set ?_ GE181.out) | exact HB.out)⟩

/-! ### tumbrellaw18_awake: function 22 -/
def tumbrellaw18_awake.f (k : Nat)  : Option (Bool) := (outbox_Encode.f k 1 0 0 (⟨#[]⟩ : ByteArray) 0 false).bind fun bt206 => (if bt206.2 = 0 then (if (bt206.1.length : Int) > 6 then ((outbox_Formed.f 1 0 0 (⟨#[]⟩ : ByteArray) 0 false).bind fun t210 => (some t210)) else (some false)) else (some false))
theorem tumbrellaw18_awake.mono : ∀ k, LeO (tumbrellaw18_awake.f k ) (tumbrellaw18_awake.f (k + 1) ) := by
  intro  k
  unfold tumbrellaw18_awake.f
  repeat' first
      | (with_reducible exact outbox_Encode.mono _ _ _ _ _ _ _)
      | (with_reducible exact LeO.refl _)
      | (with_reducible exact LeO.none _)
      | (with_reducible refine LeO.ite ?_ ?_)
      | (with_reducible refine LeO.bind ?_ (fun _ => ?_))
      | exact outbox_Encode.mono _ _ _ _ _ _ _
      | exact LeO.none _
      | refine LeO.ite ?_ ?_
      | refine LeO.bind ?_ (fun _ => ?_)
set_option maxHeartbeats 8000000 in
set_option maxRecDepth 100000 in
theorem tumbrellaw18_awake.calls (k : Nat)  (r : Bool) (w : World) (h : tumbrellaw18_awake.f k  = some r) :
    Calls Try.prog 22 #[] w fun e w' => e = .returned (.bool r) ∧ Below w.heap.size w w' := by
  have hu28 := Try.underlying28
  have HB := Aside0.mk (Below.refl w.heap.size w)
  have H : ((outbox_Encode.f k 1 0 0 (⟨#[]⟩ : ByteArray) 0 false).bind fun bt206 => (if bt206.2 = 0 then (if (bt206.1.length : Int) > 6 then ((outbox_Formed.f 1 0 0 (⟨#[]⟩ : ByteArray) 0 false).bind fun t210 => (some t210)) else (some false)) else (some false))) = some r := h
  clear h
  replace H := Option.bind_eq_some_iff.mp H
  obtain ⟨⟨t206, t209⟩, A10, H⟩ := H
  replace H : (if t209 = 0 then (if (t206.length : Int) > 6 then ((outbox_Formed.f 1 0 0 (⟨#[]⟩ : ByteArray) 0 false).bind fun t210 => (some t210)) else (some false)) else (some false)) = some r := H
  have A1 := Aside0.mk A10
  clear A10
  by_cases c2 : t209 = 0
  · rw [if_pos c2] at H
    have c2b0 : (t209 == 0) = true := beq_iff_eq.mpr c2
    have c2b1 : (t209 != 0) = false := bne_eq_false_iff_eq.mpr c2
    clear c2
    by_cases c3 : (t206.length : Int) > 6
    · rw [if_pos c3] at H
      have c3b0 : decide (6 < (t206.length : Int)) = true := decide_eq_true c3
      have c3b1 : decide (6 < t206.length) = true := decide_eq_true (by omega)
      clear c3
      replace H := Option.bind_eq_some_iff.mp H
      obtain ⟨t210, A40, H⟩ := H
      replace H : (some t210) = some r := H
      have A4 := Aside0.mk A40
      clear A40
      obtain rfl := Option.some.inj H
      go_enter Try.func22, Try.ntmps22
      go_wp2_with (first | ((with_reducible refine gate_callee (f := 34) rfl ?_); refine goesL_ (some 5) rfl rfl Try.func34 (by kernel_rfl) rfl #[.agg #[.int .i64 1, .int .i64 0, .int .i64 0, .string (⟨#[]⟩ : ByteArray), .int .i64 0, .bool false]] rfl (by (try simp only [List.map_toArray, List.map_cons, List.map_nil]); first | done | rfl | (simp only [List.length_drop, List.length_take]; rfl)) ?_; (with_reducible refine (outbox_Encode.calls k 1 0 0 (⟨#[]⟩ : ByteArray) 0 false t206 t209 _ A1.out).mono ?_); rintro e w5 ⟨v207, rfl, ho0, hb⟩; refine ⟨_, rfl, ?_⟩; have n0_ := Aside0.mk (Kd.R_lower ho0 (below_size (by repeat (first | (with_reducible first | exact HB.out | apply below_alloc | apply pw_below_drewN | apply below_drew1) | exact HB.out)))); have n1_ := Aside0.mk (below_step (by repeat (first | (with_reducible first | exact HB.out | apply below_alloc | apply pw_below_drewN | apply below_drew1) | exact HB.out)) hb); clear HB; have HO208 := n0_; have HB := n1_; clear n0_ n1_; (try clear hb); (try clear hb2); (try clear hk); (try clear hi); (try clear ho0); obtain ⟨Ao6, co6, eo6⟩ := Kd.R_slice HO208.out; subst eo6) | (go_at_call 36; (with_reducible refine (outbox_Formed.calls 1 0 0 (⟨#[]⟩ : ByteArray) 0 false t210 _ A4.out).mono ?_); rintro e w7 ⟨rfl, hb⟩; have n0_ := Aside0.mk (Kd.R_below (by (with_reducible repeat (first | apply Kd.R_alloc | apply Kd.R_drewN | apply Kd.R_drew)); exact HO208.out) hb); have n1_ := Aside0.mk (below_step (by repeat (first | (with_reducible first | exact HB.out | apply below_alloc | apply pw_below_drewN | apply below_drew1) | exact HB.out)) hb); clear HO208; clear HB; have HO208 := n0_; have HB := n1_; clear n0_ n1_; (try clear hb); (try clear hb2); (try clear hk); (try clear hi)))
      go_ret
      exact ⟨by first | rfl | (simp [errW_none, errW_some] <;> rfl) | (simp [*, errW_none, errW_some] <;> rfl), by repeat (first | (with_reducible first | exact HB.out | apply below_alloc | apply pw_below_drewN | apply below_drew1) | exact HB.out)⟩
    · rw [if_neg c3] at H
      have c3b0 : decide (6 < (t206.length : Int)) = false := decide_eq_false c3
      have c3b1 : decide (6 < t206.length) = false := decide_eq_false (by omega)
      clear c3
      obtain rfl := Option.some.inj H
      go_enter Try.func22, Try.ntmps22
      go_wp2_with (first | ((with_reducible refine gate_callee (f := 34) rfl ?_); refine goesL_ (some 5) rfl rfl Try.func34 (by kernel_rfl) rfl #[.agg #[.int .i64 1, .int .i64 0, .int .i64 0, .string (⟨#[]⟩ : ByteArray), .int .i64 0, .bool false]] rfl (by (try simp only [List.map_toArray, List.map_cons, List.map_nil]); first | done | rfl | (simp only [List.length_drop, List.length_take]; rfl)) ?_; (with_reducible refine (outbox_Encode.calls k 1 0 0 (⟨#[]⟩ : ByteArray) 0 false t206 t209 _ A1.out).mono ?_); rintro e w8 ⟨v207, rfl, ho0, hb⟩; refine ⟨_, rfl, ?_⟩; have n0_ := Aside0.mk (Kd.R_lower ho0 (below_size (by repeat (first | (with_reducible first | exact HB.out | apply below_alloc | apply pw_below_drewN | apply below_drew1) | exact HB.out)))); have n1_ := Aside0.mk (below_step (by repeat (first | (with_reducible first | exact HB.out | apply below_alloc | apply pw_below_drewN | apply below_drew1) | exact HB.out)) hb); clear HB; have HO208 := n0_; have HB := n1_; clear n0_ n1_; (try clear hb); (try clear hb2); (try clear hk); (try clear hi); (try clear ho0); obtain ⟨Ao9, co9, eo9⟩ := Kd.R_slice HO208.out; subst eo9))
      go_ret
      exact ⟨by first | rfl | (simp [errW_none, errW_some] <;> rfl) | (simp [*, errW_none, errW_some] <;> rfl), by repeat (first | (with_reducible first | exact HB.out | apply below_alloc | apply pw_below_drewN | apply below_drew1) | exact HB.out)⟩
  · rw [if_neg c2] at H
    have c2b0 : (t209 == 0) = false := beq_eq_false_iff_ne.mpr c2
    have c2b1 : (t209 != 0) = true := bne_iff_ne.mpr c2
    obtain rfl := Option.some.inj H
    go_enter Try.func22, Try.ntmps22
    go_wp2_with (first | ((with_reducible refine gate_callee (f := 34) rfl ?_); refine goesL_ (some 5) rfl rfl Try.func34 (by kernel_rfl) rfl #[.agg #[.int .i64 1, .int .i64 0, .int .i64 0, .string (⟨#[]⟩ : ByteArray), .int .i64 0, .bool false]] rfl (by (try simp only [List.map_toArray, List.map_cons, List.map_nil]); first | done | rfl | (simp only [List.length_drop, List.length_take]; rfl)) ?_; (with_reducible refine (outbox_Encode.calls k 1 0 0 (⟨#[]⟩ : ByteArray) 0 false t206 t209 _ A1.out).mono ?_); rintro e w10 ⟨v207, rfl, ho0, hb⟩; refine ⟨_, rfl, ?_⟩; have n0_ := Aside0.mk (Kd.R_lower ho0 (below_size (by repeat (first | (with_reducible first | exact HB.out | apply below_alloc | apply pw_below_drewN | apply below_drew1) | exact HB.out)))); have n1_ := Aside0.mk (below_step (by repeat (first | (with_reducible first | exact HB.out | apply below_alloc | apply pw_below_drewN | apply below_drew1) | exact HB.out)) hb); clear HB; have HO208 := n0_; have HB := n1_; clear n0_ n1_; (try clear hb); (try clear hb2); (try clear hk); (try clear hi); (try clear ho0)))
    go_ret
    exact ⟨by first | rfl | (simp [errW_none, errW_some] <;> rfl) | (simp [*, errW_none, errW_some] <;> rfl), by repeat (first | (with_reducible first | exact HB.out | apply below_alloc | apply pw_below_drewN | apply below_drew1) | exact HB.out)⟩

/-! ### tumbrellaw18_Few: function 23 -/
def tumbrellaw18_Few.l0 : Nat → List (S54) → Int → Int → Option (Bool)
  | 0, _, _, _ => none
  | k + 1, x0, x5, x6 => if x6 < x5 then (if x6 ≥ 250 then (some false) else (if 0 ≤ x6 then (if x6 < (x0.length : Int) then (if (((rd_T54 x0 x6).f2.f3).size : Int) > 1000 then (some false) else (tumbrellaw18_Few.l0 k x0 x5 (wrap64 (x6 + 1)))) else (none)) else (none))) else (some true)
def tumbrellaw18_Few.f (k : Nat) (l0 : List (S54)) : Option (Bool) := tumbrellaw18_Few.l0 k l0 (l0.length : Int) 0
theorem tumbrellaw18_Few.mono_l : ∀ k, (∀ y0 y1 y2, LeO (tumbrellaw18_Few.l0 k y0 y1 y2) (tumbrellaw18_Few.l0 (k + 1) y0 y1 y2))
  | 0 => fun _ _ _ r h => by simp [tumbrellaw18_Few.l0] at h
  | k + 1 => by
    have ih0 := tumbrellaw18_Few.mono_l k
    · intro y0 y1 y2
      unfold tumbrellaw18_Few.l0
      repeat' first
      | (with_reducible exact ih0 _ _ _)
      | (with_reducible exact LeO.refl _)
      | (with_reducible exact LeO.none _)
      | (with_reducible refine LeO.ite ?_ ?_)
      | (with_reducible refine LeO.bind ?_ (fun _ => ?_))
      | exact ih0 _ _ _
      | exact LeO.none _
      | refine LeO.ite ?_ ?_
      | refine LeO.bind ?_ (fun _ => ?_)
theorem tumbrellaw18_Few.mono : ∀ a0 k, LeO (tumbrellaw18_Few.f k a0) (tumbrellaw18_Few.f (k + 1) a0) := by
  intro a0 k
  have ih0 := tumbrellaw18_Few.mono_l k
  unfold tumbrellaw18_Few.f
  repeat' first
      | (with_reducible exact ih0 _ _ _)
      | (with_reducible exact LeO.refl _)
      | (with_reducible exact LeO.none _)
      | (with_reducible refine LeO.ite ?_ ?_)
      | (with_reducible refine LeO.bind ?_ (fun _ => ?_))
      | exact ih0 _ _ _
      | exact LeO.none _
      | refine LeO.ite ?_ ?_
      | refine LeO.bind ?_ (fun _ => ?_)
set_option maxHeartbeats 8000000 in
set_option maxRecDepth 100000 in
theorem tumbrellaw18_Few.calls (k : Nat) (A0 : Option Addr) (c0 : Nat) (l0 : List (S54)) (r : Bool) (w : World) (hr0 : Kd.C k54 w A0 l0.length l0) (hc0 : l0.length ≤ c0) (h : tumbrellaw18_Few.f k l0 = some r) :
    Calls Try.prog 23 #[.slice A0 l0.length c0] w fun e w' => e = .returned (.bool r) ∧ Drawn0 w w' := by
  have HR0 := Aside0.mk hr0
  have HC0 := Aside0.mk hc0
  clear hr0 hc0
  have H : (tumbrellaw18_Few.l0 k l0 (l0.length : Int) 0) = some r := h
  clear h
  have H' := Aside0.mk H
  clear H
  go_enter Try.func23, Try.ntmps23
  go_wp2
  go_loopg [6] k (fun kq v6 w' => ∃ (x6_1 : Int), v6 = .int .i64 x6_1 ∧ Aside0 (tumbrellaw18_Few.l0 kq l0 (l0.length : Int) x6_1 = some r) ∧ Aside0 (kq ≤ k) ∧ Drawn0 w w')
  case atStart => exact ⟨(0), (by first | rfl | (simp; done) | (simp [*]; done)), H', ⟨Nat.le_refl _⟩, by repeat (first | exact Drawn0.refl _ | apply Drawn0.step)⟩
  case round =>
    clear H'
    obtain ⟨x6_1, rfl, HA, HK1, ⟨m1, rfl⟩⟩ := hrel
    cases gk with
    | zero => exact absurd HA.out (by simp [tumbrellaw18_Few.l0])
    | succ k1 =>
      have H := HA.out
      clear HA
      simp only [tumbrellaw18_Few.l0] at H
      by_cases c2 : x6_1 < (l0.length : Int)
      · rw [if_pos c2] at H
        have c2b0 : decide (x6_1 < (l0.length : Int)) = true := decide_eq_true c2
        clear c2
        by_cases c3 : x6_1 ≥ 250
        · rw [if_pos c3] at H
          have c3b0 : decide (250 ≤ x6_1) = true := decide_eq_true c3
          clear c3
          obtain rfl := Option.some.inj H
          go_wp2
          go_ret
          exact ⟨by first | rfl | (simp; done) | (simp [*]; done), by repeat (first | exact Drawn0.refl _ | apply Drawn0.step)⟩
        · rw [if_neg c3] at H
          have c3b0 : decide (250 ≤ x6_1) = false := decide_eq_false c3
          clear c3
          by_cases c4 : 0 ≤ x6_1
          · rw [if_pos c4] at H
            have c4b0 : decide (0 ≤ x6_1) = true := decide_eq_true c4
            clear c4
            by_cases c5 : x6_1 < (l0.length : Int)
            · rw [if_pos c5] at H
              have c5b0 : decide (x6_1 < (l0.length : Int)) = true := decide_eq_true c5
              clear c5
              by_cases c6 : (((rd_T54 l0 x6_1).f2.f3).size : Int) > 1000
              · rw [if_pos c6] at H
                have c6b0 : decide (1000 < (((rd_T54 l0 x6_1).f2.f3).size : Int)) = true := decide_eq_true c6
                have c6b1 : decide (1000 < ((rd_T54 l0 x6_1).f2.f3).size) = true := decide_eq_true (by omega)
                clear c6
                obtain rfl := Option.some.inj H
                have p211 : 0 ≤ (x6_1 : Int) := of_decide_eq_true (by first | (with_reducible assumption) | assumption)
                have q211 : x6_1 < (l0.length : Int) := of_decide_eq_true (by first | (with_reducible assumption) | assumption)
                obtain ⟨ad211, e211, hx211_0, hx211_1, hx211_2, hx211_3, hx211_4, hx211_5, hx211_6, hx211_7⟩ := at_T54 HR0.out x6_1 p211 q211
                cases e211
                replace p211 := eq_true p211
                replace q211 := eq_true q211
                go_wp2
                go_ret
                exact ⟨by first | rfl | (simp; done) | (simp [*]; done), by repeat (first | exact Drawn0.refl _ | apply Drawn0.step)⟩
              · rw [if_neg c6] at H
                have c6b0 : decide (1000 < (((rd_T54 l0 x6_1).f2.f3).size : Int)) = false := decide_eq_false c6
                have c6b1 : decide (1000 < ((rd_T54 l0 x6_1).f2.f3).size) = false := decide_eq_false (by omega)
                clear c6
                have H' := Aside0.mk H
                clear H
                have p211 : 0 ≤ (x6_1 : Int) := of_decide_eq_true (by first | (with_reducible assumption) | assumption)
                have q211 : x6_1 < (l0.length : Int) := of_decide_eq_true (by first | (with_reducible assumption) | assumption)
                obtain ⟨ad211, e211, hx211_0, hx211_1, hx211_2, hx211_3, hx211_4, hx211_5, hx211_6, hx211_7⟩ := at_T54 HR0.out x6_1 p211 q211
                cases e211
                replace p211 := eq_true p211
                replace q211 := eq_true q211
                go_wp2
                go_roundg k1
                case measure => have := HK1.out; omega
                case rel => exact ⟨(wrap64 (x6_1 + 1)), (by first | rfl | (simp; done) | (simp [*]; done)), H', ⟨by have := HK1.out; omega⟩, by repeat (first | exact Drawn0.refl _ | apply Drawn0.step)⟩
            · rw [if_neg c5] at H
              exact absurd H (by simp)
          · rw [if_neg c4] at H
            exact absurd H (by simp)
      · rw [if_neg c2] at H
        have c2b0 : decide (x6_1 < (l0.length : Int)) = false := decide_eq_false c2
        clear c2
        obtain rfl := Option.some.inj H
        go_wp2
        go_ret
        exact ⟨by first | rfl | (simp; done) | (simp [*]; done), by repeat (first | exact Drawn0.refl _ | apply Drawn0.step)⟩

-- NOT PRINTED: function 44 (outbox_Letter_44)

-- NOT PRINTED: function 47 (outbox_Letter_47)

-- NOT PRINTED: function 24 (outbox_Outbox_Answer)

-- NOT PRINTED: function 48 (outbox_Letter_48)

-- NOT PRINTED: function 25 (outbox_Outbox_Put)

-- NOT PRINTED: function 50 (outbox_Letter_50)

-- NOT PRINTED: function 26 (outbox_Outbox_Forget)

-- NOT PRINTED: function 52 (outbox_Letter_52)

-- NOT PRINTED: function 27 (outbox_Outbox_All)

end Go.Proofs.Ytdglbiafpofeeaa.POutboxNil
