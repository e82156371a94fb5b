-- Written by fprint.py (wip), by way of the printer's functions; where they are turned, by texts of mine.
import Derived.Test.YtdglbiafpofeeaaPOutboxEncodesx0
import Derived.Test.YtdglbiafpofeeaaPOutboxEncodesx4
import Derived.Test.YtdglbiafpofeeaaPOutboxEncodesx5
namespace Go.Proofs.Ytdglbiafpofeeaa.POutboxEncodes
open Go.RowKit Go.Proofs.YtdglbiafpofeeaaW.PrintWords Go.Proofs.YtdglbiafpofeeaaW.PrintLast Go.Proofs.YtdglbiafpofeeaaW.PrintMore
attribute [local go_sem] max2_int min2_int max_two min_two max_three min_three max_four min_four   -- for this text's walks alone
set_option linter.unusedVariables false
set_option linter.unusedSimpArgs false
theorem kz6_1 {p_ : Prop} (h_ : p_ := by repeat (first | (with_reducible first | exact HB.out | apply below_alloc | apply pw_below_drewN | apply below_drew1) | exact HB.out)) : p_ := h_
theorem kz6_2 {p_ : Prop} (h_ : p_ := by repeat (first | (with_reducible first | exact HB.out | apply below_alloc | apply pw_below_drewN | apply below_drew1 | refine below_set ?_ GE283.out) | exact HB.out)) : p_ := h_
theorem kz6_3 {p_ : Prop} (h_ : p_ := by first | (with_reducible assumption) | assumption) : p_ := h_
theorem kz6_4 {p_ : Prop} (h_ : p_ := by (try simp only [List.map_toArray, List.map_cons, List.map_nil]); first | done | rfl | (simp only [List.length_drop, List.length_take]; rfl)) : p_ := h_
theorem kz6_5 {p_ : Prop} (h_ : p_ := by (with_reducible repeat (first | refine blk_drewN ?_ _ | refine blk_drew ?_ | refine blk_alloc ?_ _)); exact BK283.out) : p_ := h_
theorem kz6_6 {p_ : Prop} (h_ : p_ := by (with_reducible repeat (first | apply Kd.R_alloc | apply Kd.R_drewN | apply Kd.R_drew)); exact HO269.out) : p_ := h_
theorem kz6_7 {p_ : Prop} (h_ : p_ := by first | rfl | (simp; done) | (simp [*]; done)) : p_ := h_
theorem kz6_8 {p_ : Prop} (h_ : p_ := by (with_reducible repeat (first | apply Kd.R_alloc | apply Kd.R_drewN | apply Kd.R_drew)); exact HO275.out) : p_ := h_
theorem kz6_9 {p_ : Prop} (h_ : p_ := by rw [Ny331.out, List.length_drop] <;> omega) : p_ := h_

/-! ### tumbrelref01_Sum: function 74 -/
mutual
def tumbrelref01_Sum.l0 : Nat → List Int → Int → Int → Int → Option (Int)
 | 0, _, _, _, _ => none
 | k + 1, x0, x3, x6, x7 => if x7 < x6 then (if 0 ≤ x7 then (if x7 < (x0.length : Int) then (tumbrelref01_Sum.l1 k x0 (Go.bits .xor .u16 x3 (IntKind.u16.wrap ((IntKind.u16.wrap (rd x0 x7)) * 256))) x6 x7 0) else (none)) else (none)) else (some x3)
def tumbrelref01_Sum.l1 : Nat → List Int → Int → Int → Int → Int → Option (Int)
 | 0, _, _, _, _, _ => none
 | k + 1, x0, x3, x6, x7, x18 => if x18 < 8 then (if (Go.bits .and .u16 x3 32768) = 0 then (tumbrelref01_Sum.l1 k x0 (IntKind.u16.wrap (x3 * 2)) x6 x7 (wrap64 (x18 + 1))) else (tumbrelref01_Sum.l1 k x0 (Go.bits .xor .u16 (IntKind.u16.wrap (x3 * 2)) 4129) x6 x7 (wrap64 (x18 + 1)))) else (tumbrelref01_Sum.l0 k x0 x3 x6 (wrap64 (x7 + 1)))
end
def tumbrelref01_Sum.f (k : Nat) (l0 : List Int) : Option (Int) := tumbrelref01_Sum.l0 k l0 65535 (l0.length : Int) 0
theorem tumbrelref01_Sum.mono_l : ∀ k, (∀ y0 y1 y2 y3, LeO (tumbrelref01_Sum.l0 k y0 y1 y2 y3) (tumbrelref01_Sum.l0 (k + 1) y0 y1 y2 y3)) ∧ (∀ y0 y1 y2 y3 y4, LeO (tumbrelref01_Sum.l1 k y0 y1 y2 y3 y4) (tumbrelref01_Sum.l1 (k + 1) y0 y1 y2 y3 y4))
 | 0 => ⟨fun _ _ _ _ r h => by simp [tumbrelref01_Sum.l0] at h, fun _ _ _ _ _ r h => by simp [tumbrelref01_Sum.l1] at h⟩
 | k + 1 => by
  obtain ⟨ih0, ih1⟩ := tumbrelref01_Sum.mono_l k
  refine ⟨?_, ?_⟩
  ·intro y0 y1 y2 y3
   unfold tumbrelref01_Sum.l0
   repeat' first
   | (with_reducible exact ih0 _ _ _ _)
   | (with_reducible exact ih1 _ _ _ _ _)
   | (with_reducible exact LeO.refl _)
   | (with_reducible exact LeO.none _)
   | (with_reducible refine LeO.ite ?_ ?_)
   | (with_reducible refine LeO.bind ?_ (fun _ => ?_))
   | exact ih0 _ _ _ _
   | exact ih1 _ _ _ _ _
   | exact LeO.none _
   | refine LeO.ite ?_ ?_
   | refine LeO.bind ?_ (fun _ => ?_)
  ·intro y0 y1 y2 y3 y4
   unfold tumbrelref01_Sum.l1
   repeat' first
   | (with_reducible exact ih0 _ _ _ _)
   | (with_reducible exact ih1 _ _ _ _ _)
   | (with_reducible exact LeO.refl _)
   | (with_reducible exact LeO.none _)
   | (with_reducible refine LeO.ite ?_ ?_)
   | (with_reducible refine LeO.bind ?_ (fun _ => ?_))
   | exact ih0 _ _ _ _
   | exact ih1 _ _ _ _ _
   | exact LeO.none _
   | refine LeO.ite ?_ ?_
   | refine LeO.bind ?_ (fun _ => ?_)
theorem tumbrelref01_Sum.mono : ∀ a0 k, LeO (tumbrelref01_Sum.f k a0) (tumbrelref01_Sum.f (k + 1) a0) := by
 intro a0 k
 obtain ⟨ih0, ih1⟩ := tumbrelref01_Sum.mono_l k
 unfold tumbrelref01_Sum.f
 repeat' first
   | (with_reducible exact ih0 _ _ _ _)
   | (with_reducible exact ih1 _ _ _ _ _)
   | (with_reducible exact LeO.refl _)
   | (with_reducible exact LeO.none _)
   | (with_reducible refine LeO.ite ?_ ?_)
   | (with_reducible refine LeO.bind ?_ (fun _ => ?_))
   | exact ih0 _ _ _ _
   | exact ih1 _ _ _ _ _
   | exact LeO.none _
   | refine LeO.ite ?_ ?_
   | refine LeO.bind ?_ (fun _ => ?_)
set_option maxHeartbeats 8000000 in
set_option maxRecDepth 100000 in
theorem tumbrelref01_Sum.calls (k : Nat) (A0 : Option Addr) (c0 : Nat) (l0 : List Int) (r : Int) (w : World) (hr0 : Kd.C (Kd.int .u8) w A0 l0.length l0) (hc0 : l0.length ≤ c0) (h : tumbrelref01_Sum.f k l0 = some r) :
  Calls Try.prog 74 #[.slice A0 l0.length c0] w fun e w' => e = .returned (.int .u16 r) ∧ Drawn0 w w' := by
 have HR0 := Aside0.mk hr0
 have HC0 := Aside0.mk hc0
 clear hr0 hc0
 have H : (tumbrelref01_Sum.l0 k l0 65535 (l0.length : Int) 0) = some r := h
 clear h
 have H' := Aside0.mk H
 clear H
 go_enter Try.func74, Try.ntmps74
 go_wp2
 go_loopg [3, 7] k (fun kq v3 v7 w' => ∃ (x3_1 : Int) (x7_1 : Int), v3 = .int .u16 x3_1 ∧ v7 = .int .i64 x7_1 ∧ Aside0 (tumbrelref01_Sum.l0 kq l0 x3_1 (l0.length : Int) x7_1 = some r) ∧ Aside0 (kq ≤ k) ∧ Drawn0 w w')
 case atStart => exact ⟨(65535), (0), kz6_7, kz6_7, H', ⟨Nat.le_refl _⟩, by repeat (first | exact Drawn0.refl _ | apply Drawn0.step)⟩
 case round =>
  clear H'
  obtain ⟨x3_1, x7_1, rfl, rfl, HA, HK1, ⟨m1, rfl⟩⟩ := hrel
  cases gk with
  | zero => exact absurd HA.out (by simp [tumbrelref01_Sum.l0])
  | succ k1 =>
   have H := HA.out
   clear HA
   simp only [tumbrelref01_Sum.l0] at H
   by_cases c2 : x7_1 < (l0.length : Int)
   ·rw [if_pos c2] at H
    have c2b0 : decide (x7_1 < (l0.length : Int)) = true := decide_eq_true c2
    clear c2
    by_cases c3 : 0 ≤ x7_1
    ·rw [if_pos c3] at H
     have c3b0 : decide (0 ≤ x7_1) = true := decide_eq_true c3
     clear c3
     by_cases c4 : x7_1 < (l0.length : Int)
     ·rw [if_pos c4] at H
      have c4b0 : decide (x7_1 < (l0.length : Int)) = true := decide_eq_true c4
      clear c4
      have H' := Aside0.mk H
      clear H
      have p262 : 0 ≤ (x7_1 : Int) := of_decide_eq_true kz6_3
      have q262 : x7_1 < (l0.length : Int) := of_decide_eq_true kz6_3
      obtain ⟨ad262, e262, hx262_0⟩ := Kd.at_int HR0.out x7_1 p262 q262
      cases e262
      replace p262 := eq_true p262
      replace q262 := eq_true q262
      go_wp2
      go_loopg [3, 18] k1 (fun kq v3 v18 w' => ∃ (x3_2 : Int) (x18_2 : Int), v3 = .int .u16 x3_2 ∧ v18 = .int .i64 x18_2 ∧ Aside0 (tumbrelref01_Sum.l1 kq l0 x3_2 (l0.length : Int) x7_1 x18_2 = some r) ∧ Aside0 (kq ≤ k1) ∧ Drawn0 w w')
      case atStart => exact ⟨(Go.bits .xor .u16 x3_1 (IntKind.u16.wrap ((IntKind.u16.wrap (rd l0 x7_1)) * 256))), (0), kz6_7, kz6_7, H', ⟨Nat.le_refl _⟩, by repeat (first | exact Drawn0.refl _ | apply Drawn0.step)⟩
      case round =>
       clear H'
       try clear c2
       try clear c2b0
       try clear p2
       try clear q2
       try clear hx2
       try clear c3
       try clear c3b0
       try clear c4
       try clear c4b0
       try clear hx262_0
       try clear p262
       try clear q262
       obtain ⟨x3_2, x18_2, rfl, rfl, HA, HK2, ⟨m2, rfl⟩⟩ := hrel
       cases gk with
       | zero => exact absurd HA.out (by simp [tumbrelref01_Sum.l1])
       | succ k2 =>
        have H := HA.out
        clear HA
        simp only [tumbrelref01_Sum.l1] at H
        by_cases c5 : x18_2 < 8
        ·rw [if_pos c5] at H
         have c5b0 : decide (x18_2 < 8) = true := decide_eq_true c5
         clear c5
         by_cases c6 : (Go.bits .and .u16 x3_2 32768) = 0
         ·rw [if_pos c6] at H
          have c6b0 : ((Go.bits .and .u16 x3_2 32768) == 0) = true := beq_iff_eq.mpr c6
          have c6b1 : ((Go.bits .and .u16 x3_2 32768) != 0) = false := bne_eq_false_iff_eq.mpr c6
          clear c6
          have H' := Aside0.mk H
          clear H
          go_wp2
          go_roundg k2
          case measure => have := HK1.out; have := HK2.out; omega
          case rel => exact ⟨(IntKind.u16.wrap (x3_2 * 2)), (wrap64 (x18_2 + 1)), kz6_7, kz6_7, H', ⟨by have := HK1.out; have := HK2.out; omega⟩, by repeat (first | exact Drawn0.refl _ | apply Drawn0.step)⟩
         ·rw [if_neg c6] at H
          have c6b0 : ((Go.bits .and .u16 x3_2 32768) == 0) = false := beq_eq_false_iff_ne.mpr c6
          have c6b1 : ((Go.bits .and .u16 x3_2 32768) != 0) = true := bne_iff_ne.mpr c6
          have H' := Aside0.mk H
          clear H
          go_wp2
          go_roundg k2
          case measure => have := HK1.out; have := HK2.out; omega
          case rel => exact ⟨(Go.bits .xor .u16 (IntKind.u16.wrap (x3_2 * 2)) 4129), (wrap64 (x18_2 + 1)), kz6_7, kz6_7, H', ⟨by have := HK1.out; have := HK2.out; omega⟩, by repeat (first | exact Drawn0.refl _ | apply Drawn0.step)⟩
        ·rw [if_neg c5] at H
         have c5b0 : decide (x18_2 < 8) = false := decide_eq_false c5
         clear c5
         have H' := Aside0.mk H
         clear H
         go_wp2
         go_roundg k2
         case measure => have := HK1.out; have := HK2.out; omega
         case rel => exact ⟨(x3_2), (wrap64 (x7_1 + 1)), kz6_7, kz6_7, H', ⟨by have := HK1.out; have := HK2.out; omega⟩, by repeat (first | exact Drawn0.refl _ | apply Drawn0.step)⟩
     ·rw [if_neg c4] at H
      exact absurd H (by simp)
    ·rw [if_neg c3] at H
     exact absurd H (by simp)
   ·rw [if_neg c2] at H
    have c2b0 : decide (x7_1 < (l0.length : Int)) = false := decide_eq_false c2
    clear c2
    obtain rfl := Option.some.inj H
    go_wp2
    go_ret
    exact ⟨by first | rfl | (simp; done) | (simp [*]; done), by repeat (first | exact Drawn0.refl _ | apply Drawn0.step)⟩

/-! ### tumbrelref01_Seal: function 57 -/
def tumbrelref01_Seal.f (k : Nat) (l0 : List Int) : Option (List Int × Int) := if (l0.length : Int) = 0 then (some (([] : List Int), 1)) else (if (l0.length : Int) > 14000 then (some (([] : List Int), 4)) else ((tumbrelref01_two.f (IntKind.u16.wrap ((l0.length : Int)))).bind fun t263 => ((tumbrelref01_Sum.f k t263).bind fun t266 => ((tumbrelref01_two.f t266).bind fun t267 => (if t263.length + t267.length < 140737488355328 then ((some (t263 ++ t267 : List Int)).bind fun y270 => (if y270.length + l0.length < 140737488355328 then ((some (y270 ++ l0 : List Int)).bind fun y273 => ((tumbrelref01_Sum.f k y273).bind fun t276 => ((tumbrelref01_two.f t276).bind fun t277 => (if y273.length + t277.length < 140737488355328 then (some ((y273 ++ t277), 0)) else (none))))) else (none))) else (none))))))
theorem tumbrelref01_Seal.mono : ∀ a0 k, LeO (tumbrelref01_Seal.f k a0) (tumbrelref01_Seal.f (k + 1) a0) := by
 intro a0 k
 unfold tumbrelref01_Seal.f
 repeat' first
   | (with_reducible exact tumbrelref01_Sum.mono _ _)
   | (with_reducible exact LeO.refl _)
   | (with_reducible exact LeO.none _)
   | (with_reducible refine LeO.ite ?_ ?_)
   | (with_reducible refine LeO.bind ?_ (fun _ => ?_))
   | exact tumbrelref01_Sum.mono _ _
   | exact LeO.none _
   | refine LeO.ite ?_ ?_
   | refine LeO.bind ?_ (fun _ => ?_)
set_option maxHeartbeats 8000000 in
set_option maxRecDepth 100000 in
theorem tumbrelref01_Seal.calls (k : Nat) (A0 : Option Addr) (c0 : Nat) (l0 : List Int) (r1 : List Int) (r2 : Int) (w : World) (hr0 : Kd.C (Kd.int .u8) w A0 l0.length l0) (hc0 : l0.length ≤ c0) (h : tumbrelref01_Seal.f k l0 = some (r1, r2)) :
  Calls Try.prog 57 #[.slice A0 l0.length c0] w fun e w' => ∃ v0_ : Value, e = .returned (.tuple #[v0_, .int .i64 r2]) ∧ Kd.R (Kd.int .u8) 5 w' w.heap.size (fun _ => True) v0_ r1 ∧ Below w.heap.size w w' := by
 have HR0 := Aside0.mk hr0
 have HC0 := Aside0.mk hc0
 clear hr0 hc0
 have HB := Aside0.mk (Below.refl w.heap.size w)
 have H : (if (l0.length : Int) = 0 then (some (([] : List Int), 1)) else (if (l0.length : Int) > 14000 then (some (([] : List Int), 4)) else ((tumbrelref01_two.f (IntKind.u16.wrap ((l0.length : Int)))).bind fun t263 => ((tumbrelref01_Sum.f k t263).bind fun t266 => ((tumbrelref01_two.f t266).bind fun t267 => (if t263.length + t267.length < 140737488355328 then ((some (t263 ++ t267 : List Int)).bind fun y270 => (if y270.length + l0.length < 140737488355328 then ((some (y270 ++ l0 : List Int)).bind fun y273 => ((tumbrelref01_Sum.f k y273).bind fun t276 => ((tumbrelref01_two.f t276).bind fun t277 => (if y273.length + t277.length < 140737488355328 then (some ((y273 ++ t277), 0)) else (none))))) else (none))) else (none))))))) = some (r1, r2) := h
 clear h
 by_cases c2 : (l0.length : Int) = 0
 ·rw [if_pos c2] at H
  have c2b0 : ((l0.length : Int) == 0) = true := beq_iff_eq.mpr c2
  have c2b1 : ((l0.length : Int) != 0) = false := bne_eq_false_iff_eq.mpr c2
  clear c2
  simp only [Option.some.injEq, Prod.mk.injEq] at H
  obtain ⟨rfl, rfl⟩ := H
  go_enter Try.func57, Try.ntmps57
  go_wp2
  go_ret2
  exact ⟨_, by first | rfl | (simp [errW_none, errW_some] <;> rfl) | (simp [*, errW_none, errW_some] <;> rfl), by first | exact Kd.R_nil _ _ _ _ _ | exact Kd.N_nil _ _ _ _ _ | exact Kd.V_nil _ _ _ _ _ | exact Kd.Q_nil _ _ _ _ _ | exact Kd.S_nil _ _ _ _ _, by repeat (first | (with_reducible first | exact HB.out | apply below_alloc | apply pw_below_drewN | apply below_drew1) | exact HB.out)⟩
 ·rw [if_neg c2] at H
  have c2b0 : ((l0.length : Int) == 0) = false := beq_eq_false_iff_ne.mpr c2
  have c2b1 : ((l0.length : Int) != 0) = true := bne_iff_ne.mpr c2
  have c2b2 : ¬ (l0 = []) := fun h_ => c2 (by rw [h_]; rfl)
  by_cases c3 : (l0.length : Int) > 14000
  ·rw [if_pos c3] at H
   have c3b0 : decide (14000 < (l0.length : Int)) = true := decide_eq_true c3
   have c3b1 : decide (14000 < l0.length) = true := decide_eq_true (by omega)
   clear c3
   simp only [Option.some.injEq, Prod.mk.injEq] at H
   obtain ⟨rfl, rfl⟩ := H
   go_enter Try.func57, Try.ntmps57
   go_wp2
   go_ret2
   exact ⟨_, by first | rfl | (simp [errW_none, errW_some] <;> rfl) | (simp [*, errW_none, errW_some] <;> rfl), by first | exact Kd.R_nil _ _ _ _ _ | exact Kd.N_nil _ _ _ _ _ | exact Kd.V_nil _ _ _ _ _ | exact Kd.Q_nil _ _ _ _ _ | exact Kd.S_nil _ _ _ _ _, by repeat (first | (with_reducible first | exact HB.out | apply below_alloc | apply pw_below_drewN | apply below_drew1) | exact HB.out)⟩
  ·rw [if_neg c3] at H
   have c3b0 : decide (14000 < (l0.length : Int)) = false := decide_eq_false c3
   have c3b1 : decide (14000 < l0.length) = false := decide_eq_false (by omega)
   clear c3
   replace H := Option.bind_eq_some_iff.mp H
   obtain ⟨t263, A40, H⟩ := H
   replace H : ((tumbrelref01_Sum.f k t263).bind fun t266 => ((tumbrelref01_two.f t266).bind fun t267 => (if t263.length + t267.length < 140737488355328 then ((some (t263 ++ t267 : List Int)).bind fun y270 => (if y270.length + l0.length < 140737488355328 then ((some (y270 ++ l0 : List Int)).bind fun y273 => ((tumbrelref01_Sum.f k y273).bind fun t276 => ((tumbrelref01_two.f t276).bind fun t277 => (if y273.length + t277.length < 140737488355328 then (some ((y273 ++ t277), 0)) else (none))))) else (none))) else (none)))) = some (r1, r2) := H
   have A4 := Aside0.mk A40
   clear A40
   replace H := Option.bind_eq_some_iff.mp H
   obtain ⟨t266, A50, H⟩ := H
   replace H : ((tumbrelref01_two.f t266).bind fun t267 => (if t263.length + t267.length < 140737488355328 then ((some (t263 ++ t267 : List Int)).bind fun y270 => (if y270.length + l0.length < 140737488355328 then ((some (y270 ++ l0 : List Int)).bind fun y273 => ((tumbrelref01_Sum.f k y273).bind fun t276 => ((tumbrelref01_two.f t276).bind fun t277 => (if y273.length + t277.length < 140737488355328 then (some ((y273 ++ t277), 0)) else (none))))) else (none))) else (none))) = some (r1, r2) := H
   have A5 := Aside0.mk A50
   clear A50
   replace H := Option.bind_eq_some_iff.mp H
   obtain ⟨t267, A60, H⟩ := H
   replace H : (if t263.length + t267.length < 140737488355328 then ((some (t263 ++ t267 : List Int)).bind fun y270 => (if y270.length + l0.length < 140737488355328 then ((some (y270 ++ l0 : List Int)).bind fun y273 => ((tumbrelref01_Sum.f k y273).bind fun t276 => ((tumbrelref01_two.f t276).bind fun t277 => (if y273.length + t277.length < 140737488355328 then (some ((y273 ++ t277), 0)) else (none))))) else (none))) else (none)) = some (r1, r2) := H
   have A6 := Aside0.mk A60
   clear A60
   by_cases c7 : t263.length + t267.length < 140737488355328
   ·rw [if_pos c7] at H
    have LMc7 := Aside0.mk c7
    clear c7
    obtain ⟨y270, hy270⟩ : ∃ y_ : List Int, y_ = (t263 ++ t267) := ⟨_, rfl⟩
    replace H : (if y270.length + l0.length < 140737488355328 then ((some (y270 ++ l0 : List Int)).bind fun y273 => ((tumbrelref01_Sum.f k y273).bind fun t276 => ((tumbrelref01_two.f t276).bind fun t277 => (if y273.length + t277.length < 140737488355328 then (some ((y273 ++ t277), 0)) else (none))))) else (none)) = some (r1, r2) := by first | (rw [hy270]; with_reducible exact H) | (have H2_ := (Option.bind_some _ _).symm.trans H; rw [hy270]; with_reducible exact H2_) | (have H2_ := (Option.bind_some _ _).symm.trans H; with_reducible exact H2_) | with_reducible exact H | (rw [hy270]; exact H) | exact H
    have Ny270 := Aside0.mk hy270
    clear hy270
    by_cases c8 : y270.length + l0.length < 140737488355328
    ·rw [if_pos c8] at H
     have LMc8 := Aside0.mk c8
     clear c8
     obtain ⟨y273, hy273⟩ : ∃ y_ : List Int, y_ = (y270 ++ l0) := ⟨_, rfl⟩
     replace H : ((tumbrelref01_Sum.f k y273).bind fun t276 => ((tumbrelref01_two.f t276).bind fun t277 => (if y273.length + t277.length < 140737488355328 then (some ((y273 ++ t277), 0)) else (none)))) = some (r1, r2) := by first | (rw [hy273]; with_reducible exact H) | (have H2_ := (Option.bind_some _ _).symm.trans H; rw [hy273]; with_reducible exact H2_) | (have H2_ := (Option.bind_some _ _).symm.trans H; with_reducible exact H2_) | with_reducible exact H | (rw [hy273]; exact H) | exact H
     have Ny273 := Aside0.mk hy273
     clear hy273
     replace H := Option.bind_eq_some_iff.mp H
     obtain ⟨t276, A90, H⟩ := H
     replace H : ((tumbrelref01_two.f t276).bind fun t277 => (if y273.length + t277.length < 140737488355328 then (some ((y273 ++ t277), 0)) else (none))) = some (r1, r2) := H
     have A9 := Aside0.mk A90
     clear A90
     replace H := Option.bind_eq_some_iff.mp H
     obtain ⟨t277, A100, H⟩ := H
     replace H : (if y273.length + t277.length < 140737488355328 then (some ((y273 ++ t277), 0)) else (none)) = some (r1, r2) := H
     have A10 := Aside0.mk A100
     clear A100
     by_cases c11 : y273.length + t277.length < 140737488355328
     ·rw [if_pos c11] at H
      have LMc11 := Aside0.mk c11
      clear c11
      obtain ⟨y280, hy280⟩ : ∃ y_ : List Int, y_ = (y273 ++ t277) := ⟨_, rfl⟩
      replace H : (some (y280, 0)) = some (r1, r2) := by first | (rw [hy280]; with_reducible exact H) | (have H2_ := (Option.bind_some _ _).symm.trans H; rw [hy280]; with_reducible exact H2_) | (have H2_ := (Option.bind_some _ _).symm.trans H; with_reducible exact H2_) | with_reducible exact H | (rw [hy280]; exact H) | exact H
      have Ny280 := Aside0.mk hy280
      clear hy280
      simp only [Option.some.injEq, Prod.mk.injEq] at H
      obtain ⟨rfl, rfl⟩ := H
      go_enter Try.func57, Try.ntmps57
      go_wp2_with (first | ((with_reducible refine gate_callee (f := 73) rfl ?_); refine goesL_ (some 14) rfl rfl Try.func73 (by kernel_rfl) rfl #[.int .u16 (IntKind.u16.wrap ((l0.length : Int)))] rfl kz6_4 ?_; (with_reducible refine (tumbrelref01_two.calls (IntKind.u16.wrap ((l0.length : Int))) t263 _ A4.out).mono ?_); rintro e w12 ⟨v264, rfl, ho0, hb⟩; refine ⟨_, rfl, ?_⟩; have n0_ := Aside0.mk (Kd.R_lower ho0 (below_size kz6_1)); have n1_ := Aside0.mk (below_step kz6_1 hb); clear HB; have HO265 := n0_; have HB := n1_; clear n0_ n1_; (try clear hb); (try clear hb2); (try clear hk); (try clear hi); (try clear ho0); obtain ⟨Ao13, co13, eo13⟩ := Kd.R_slice HO265.out; subst eo13) | ((with_reducible refine gate_callee (f := 74) rfl ?_); refine goesL_ (some 17) rfl rfl Try.func74 (by kernel_rfl) rfl #[.slice Ao13 t263.length co13] rfl kz6_4 ?_; (with_reducible refine (tumbrelref01_Sum.calls k _ _ t263 t266 _ ?side1 ?side2 A5.out).mono ?_); (case side1 => repeat (first | exact (Kd.R_reads' HO265.out).2.2 | (with_reducible refine Kd.C_alloc ?_ _) | (with_reducible refine Kd.C_drewN ?_ _) | (with_reducible refine Kd.C_drew ?_))); (case side2 => exact (Kd.R_reads' HO265.out).2.1); rintro e w' ⟨rfl, ⟨nd, rfl⟩⟩; refine ⟨_, rfl, ?_⟩) | ((with_reducible refine gate_callee (f := 73) rfl ?_); refine goesL_ (some 18) rfl rfl Try.func73 (by kernel_rfl) rfl #[.int .u16 t266] rfl kz6_4 ?_; (with_reducible refine (tumbrelref01_two.calls t266 t267 _ A6.out).mono ?_); rintro e w14 ⟨v268, rfl, ho0, hb⟩; refine ⟨_, rfl, ?_⟩; have n0_ := Aside0.mk (Kd.R_elder' (by (with_reducible repeat (first | apply Kd.R_alloc | apply Kd.R_drewN | apply Kd.R_drew)); exact HO265.out) (Kd.R_base ho0) hb); have n1_ := Aside0.mk (Kd.R_lower (Kd.R_new' ho0 (Kd.R_lt (by (with_reducible repeat (first | apply Kd.R_alloc | apply Kd.R_drewN | apply Kd.R_drew)); exact HO265.out))) (below_size kz6_1)); have n2_ := Aside0.mk (below_step kz6_1 hb); clear HO265; clear HB; have HO265 := n0_; have HO269 := n1_; have HB := n2_; clear n0_ n1_ n2_; (try clear hb); (try clear hb2); (try clear hk); (try clear hi); (try clear ho0); obtain ⟨Ao16, co16, eo16⟩ := Kd.R_slice HO269.out; subst eo16) | ((with_reducible refine gate_builtin (b := .append) (xs := #[.tmp 15, .tmp 18]) rfl ?_); at_builtin; refine Kd.R_append_rows (Kd.int .u8) (w0 := w) w.heap.size rfl (.tmp 15) (.tmp 18) 50 5 (.int .u8 0) 1 rfl Try.underlying50 info5 rfl (by decide) (by omega) (.slice Ao13 t263.length co13) t263 t267 _ _ _ (fun k_ => some k_ ≠ (.slice Ao16 t267.length co16 : Value).ownBlock) (fun _ => False) rfl rfl ?aO ?aR (fun _ _ h => h) (fun _ h => h.elim) ?aF ?aB ?aS ?aL ?_; (case aR => repeat (first | exact (Kd.R_reads' HO269.out).2.2 | (with_reducible refine Kd.C_alloc ?_ _) | (with_reducible refine Kd.C_drewN ?_ _) | (with_reducible refine Kd.C_drew ?_))); (case aB => exact kz6_1); (case aF => exact (fun k_ hk => Kd.fresh' (Kd.R_lt kz6_6) k_ hk)); (case aO => exact (by (with_reducible repeat (first | apply Kd.R_alloc | apply Kd.R_drewN | apply Kd.R_drew)); exact Kd.R_mono HO265.out (fun _ hk => hk.2))); (case aS => exact (below_size kz6_1)); (case aL => have := LMc7.out; omega); intro v271 w15 ho hb hg hat; rw [← Ny270.out] at ho; have n0_ := Aside0.mk (Kd.R_after (ok := (fun _ => True)) kz6_6 hg hat); have n1_ := Aside0.mk (hb); have n2_ := Aside0.mk (ho); clear HO269; clear HB; clear HO265; have HO269 := n0_; have HB := n1_; have HO272 := n2_; clear n0_ n1_ n2_; clear ho hb hg hat) | ((with_reducible refine gate_builtin (b := .append) (xs := #[.tmp 20, .tmp 21]) rfl ?_); at_builtin; refine Kd.R_append_rows (Kd.int .u8) (w0 := w) w.heap.size rfl (.tmp 20) (.tmp 21) 50 5 (.int .u8 0) 1 rfl Try.underlying50 info5 rfl (by decide) (by omega) v271 y270 l0 _ _ _ (fun k_ => some k_ ≠ (.slice Ao16 t267.length co16 : Value).ownBlock) (fun _ => False) rfl rfl ?aO ?aR (fun _ _ h => h) (fun _ h => h.elim) ?aF ?aB ?aS ?aL ?_; (case aR => repeat (first | exact (Kd.C_below HR0.out HB.out) | (with_reducible refine Kd.C_alloc ?_ _) | (with_reducible refine Kd.C_drewN ?_ _) | (with_reducible refine Kd.C_drew ?_))); (case aB => exact kz6_1); (case aF => exact (fun k_ hk => Kd.fresh' (Kd.R_lt kz6_6) k_ hk)); (case aO => exact (by (with_reducible repeat (first | apply Kd.R_alloc | apply Kd.R_drewN | apply Kd.R_drew)); exact HO272.out)); (case aS => exact (below_size kz6_1)); (case aL => have := LMc8.out; omega); intro v274 w17 ho hb hg hat; rw [← Ny273.out] at ho; have n0_ := Aside0.mk (Kd.R_after (ok := (fun _ => True)) kz6_6 hg hat); have n1_ := Aside0.mk (hb); have n2_ := Aside0.mk (ho); clear HO269; clear HB; clear HO272; have HO269 := n0_; have HB := n1_; have HO275 := n2_; clear n0_ n1_ n2_; clear ho hb hg hat; obtain ⟨Ao18, co18, eo18⟩ := Kd.R_slice HO275.out; subst eo18) | ((with_reducible refine gate_callee (f := 74) rfl ?_); refine goesL_ (some 25) rfl rfl Try.func74 (by kernel_rfl) rfl #[.slice Ao18 y273.length co18] rfl kz6_4 ?_; (with_reducible refine (tumbrelref01_Sum.calls k _ _ y273 t276 _ ?side1 ?side2 A9.out).mono ?_); (case side1 => repeat (first | exact (Kd.R_reads' HO275.out).2.2 | (with_reducible refine Kd.C_alloc ?_ _) | (with_reducible refine Kd.C_drewN ?_ _) | (with_reducible refine Kd.C_drew ?_))); (case side2 => exact (Kd.R_reads' HO275.out).2.1); rintro e w' ⟨rfl, ⟨nd, rfl⟩⟩; refine ⟨_, rfl, ?_⟩) | ((with_reducible refine gate_callee (f := 73) rfl ?_); refine goesL_ (some 26) rfl rfl Try.func73 (by kernel_rfl) rfl #[.int .u16 t276] rfl kz6_4 ?_; (with_reducible refine (tumbrelref01_two.calls t276 t277 _ A10.out).mono ?_); rintro e w19 ⟨v278, rfl, ho0, hb⟩; refine ⟨_, rfl, ?_⟩; have n0_ := Aside0.mk (Kd.R_elder' kz6_6 (Kd.R_base ho0) hb); have n1_ := Aside0.mk (Kd.R_elder' kz6_8 (Kd.R_base ho0) hb); have n2_ := Aside0.mk (Kd.R_lower (Kd.R_new' (Kd.R_new' ho0 (Kd.R_lt kz6_6)) (Kd.R_lt kz6_8)) (below_size kz6_1)); have n3_ := Aside0.mk (below_step kz6_1 hb); clear HO269; clear HO275; clear HB; have HO269 := n0_; have HO275 := n1_; have HO279 := n2_; have HB := n3_; clear n0_ n1_ n2_ n3_; (try clear hb); (try clear hb2); (try clear hk); (try clear hi); (try clear ho0); obtain ⟨Ao21, co21, eo21⟩ := Kd.R_slice HO279.out; subst eo21) | ((with_reducible refine gate_builtin (b := .append) (xs := #[.tmp 23, .tmp 26]) rfl ?_); at_builtin; refine Kd.R_append_rows (Kd.int .u8) (w0 := w) w.heap.size rfl (.tmp 23) (.tmp 26) 50 5 (.int .u8 0) 1 rfl Try.underlying50 info5 rfl (by decide) (by omega) (.slice Ao18 y273.length co18) y273 t277 _ _ _ (fun k_ => some k_ ≠ (.slice Ao16 t267.length co16 : Value).ownBlock ∧ some k_ ≠ (.slice Ao21 t277.length co21 : Value).ownBlock) (fun _ => False) rfl rfl ?aO ?aR (fun _ _ h => h) (fun _ h => h.elim) ?aF ?aB ?aS ?aL ?_; (case aR => repeat (first | exact (Kd.R_reads' HO279.out).2.2 | (with_reducible refine Kd.C_alloc ?_ _) | (with_reducible refine Kd.C_drewN ?_ _) | (with_reducible refine Kd.C_drew ?_))); (case aB => exact kz6_1); (case aF => exact (fun k_ hk => ⟨Kd.fresh' (Kd.R_lt kz6_6) k_ hk, Kd.fresh' (Kd.R_lt (by (with_reducible repeat (first | apply Kd.R_alloc | apply Kd.R_drewN | apply Kd.R_drew)); exact HO279.out)) k_ hk⟩)); (case aO => exact kz6_8); (case aS => exact (below_size kz6_1)); (case aL => have := LMc11.out; omega); intro v281 w20 ho hb hg hat; rw [← Ny280.out] at ho; have n0_ := Aside0.mk (Kd.R_after (ok := (fun k_ => some k_ ≠ (.slice Ao21 t277.length co21 : Value).ownBlock)) (by (with_reducible repeat (first | apply Kd.R_alloc | apply Kd.R_drewN | apply Kd.R_drew)); exact Kd.R_mono HO269.out (fun _ hk => ⟨hk.2, hk.1.2⟩)) hg hat); have n1_ := Aside0.mk (Kd.R_after (ok := (fun k_ => some k_ ≠ (.slice Ao16 t267.length co16 : Value).ownBlock)) (by (with_reducible repeat (first | apply Kd.R_alloc | apply Kd.R_drewN | apply Kd.R_drew)); exact Kd.R_mono HO279.out (fun _ hk => ⟨hk.1.2, hk.2⟩)) hg hat); have n2_ := Aside0.mk (hb); have n3_ := Aside0.mk (ho); clear HO269; clear HO279; clear HB; clear HO275; have HO269 := n0_; have HO279 := n1_; have HB := n2_; have HO282 := n3_; clear n0_ n1_ n2_ n3_; clear ho hb hg hat))
      go_ret2
      exact ⟨_, by first | rfl | (simp [errW_none, errW_some] <;> rfl) | (simp [*, errW_none, errW_some] <;> rfl), by (with_reducible repeat (first | apply Kd.R_alloc | apply Kd.R_drewN | apply Kd.R_drew)); exact Kd.R_mono HO282.out (fun _ hk => trivial), by repeat (first | (with_reducible first | exact HB.out | apply below_alloc | apply pw_below_drewN | apply below_drew1) | exact HB.out)⟩
     ·rw [if_neg c11] at H
      exact absurd H (by simp)
    ·rw [if_neg c8] at H
     exact absurd H (by simp)
   ·rw [if_neg c7] at H
    exact absurd H (by simp)

/-! ### tumbrelref18_Encode: function 35 -/
def tumbrelref18_Encode.f (k : Nat) (a0_0 : Int) (a0_1 : Int) (a0_2 : Int) (a0_3 : ByteArray) (a0_4 : Int) (a0_5 : Bool) : Option (List Int × Int) := (tumbrelref18_Formed.f a0_0 a0_1 a0_2 a0_3 a0_4 a0_5).bind fun t284 => (if t284 = true then (if a0_5 = true then ((tumbrelref01_Items.f k (([(⟨false, a0_0, (⟨#[]⟩ : ByteArray)⟩ : S117), (⟨false, a0_1, (⟨#[]⟩ : ByteArray)⟩ : S117), (⟨false, a0_2, (⟨#[]⟩ : ByteArray)⟩ : S117), (⟨true, 0, a0_3⟩ : S117), (⟨false, a0_4, (⟨#[]⟩ : ByteArray)⟩ : S117), (⟨false, 1, (⟨#[]⟩ : ByteArray)⟩ : S117)] : List (S117)))).bind fun bt288 => ((tumbrelref01_Seal.f k bt288.1).bind fun bt292 => (some (bt292.1, bt292.2)))) else ((tumbrelref01_Items.f k (([(⟨false, a0_0, (⟨#[]⟩ : ByteArray)⟩ : S117), (⟨false, a0_1, (⟨#[]⟩ : ByteArray)⟩ : S117), (⟨false, a0_2, (⟨#[]⟩ : ByteArray)⟩ : S117), (⟨true, 0, a0_3⟩ : S117), (⟨false, a0_4, (⟨#[]⟩ : ByteArray)⟩ : S117), (⟨false, 0, (⟨#[]⟩ : ByteArray)⟩ : S117)] : List (S117)))).bind fun bt299 => ((tumbrelref01_Seal.f k bt299.1).bind fun bt303 => (some (bt303.1, bt303.2))))) else (some (([] : List Int), 1)))
theorem tumbrelref18_Encode.mono : ∀ a0 a1 a2 a3 a4 a5 k, LeO (tumbrelref18_Encode.f k a0 a1 a2 a3 a4 a5) (tumbrelref18_Encode.f (k + 1) a0 a1 a2 a3 a4 a5) := by
 intro a0 a1 a2 a3 a4 a5 k
 unfold tumbrelref18_Encode.f
 repeat' first
   | (with_reducible exact tumbrelref01_Items.mono _ _)
   | (with_reducible exact tumbrelref01_Seal.mono _ _)
   | (with_reducible exact LeO.refl _)
   | (with_reducible exact LeO.none _)
   | (with_reducible refine LeO.ite ?_ ?_)
   | (with_reducible refine LeO.bind ?_ (fun _ => ?_))
   | exact tumbrelref01_Items.mono _ _
   | exact tumbrelref01_Seal.mono _ _
   | exact LeO.none _
   | refine LeO.ite ?_ ?_
   | refine LeO.bind ?_ (fun _ => ?_)
set_option maxHeartbeats 8000000 in
set_option maxRecDepth 100000 in
theorem tumbrelref18_Encode.calls (k : Nat) (a0_0 : Int) (a0_1 : Int) (a0_2 : Int) (a0_3 : ByteArray) (a0_4 : Int) (a0_5 : Bool) (r1 : List Int) (r2 : Int) (w : World) (h : tumbrelref18_Encode.f k a0_0 a0_1 a0_2 a0_3 a0_4 a0_5 = some (r1, r2)) :
  Calls Try.prog 35 #[.agg #[.int .i64 a0_0, .int .i64 a0_1, .int .i64 a0_2, .string a0_3, .int .i64 a0_4, .bool a0_5]] w fun e w' => ∃ v0_ : Value, e = .returned (.tuple #[v0_, .int .i64 r2]) ∧ Kd.R (Kd.int .u8) 5 w' w.heap.size (fun _ => True) v0_ r1 ∧ Below w.heap.size w w' := by
 have hu28 := Try.underlying28
 have hu117 := Try.underlying117
 have HB := Aside0.mk (Below.refl w.heap.size w)
 have H : ((tumbrelref18_Formed.f a0_0 a0_1 a0_2 a0_3 a0_4 a0_5).bind fun t284 => (if t284 = true then (if a0_5 = true then ((tumbrelref01_Items.f k (([(⟨false, a0_0, (⟨#[]⟩ : ByteArray)⟩ : S117), (⟨false, a0_1, (⟨#[]⟩ : ByteArray)⟩ : S117), (⟨false, a0_2, (⟨#[]⟩ : ByteArray)⟩ : S117), (⟨true, 0, a0_3⟩ : S117), (⟨false, a0_4, (⟨#[]⟩ : ByteArray)⟩ : S117), (⟨false, 1, (⟨#[]⟩ : ByteArray)⟩ : S117)] : List (S117)))).bind fun bt288 => ((tumbrelref01_Seal.f k bt288.1).bind fun bt292 => (some (bt292.1, bt292.2)))) else ((tumbrelref01_Items.f k (([(⟨false, a0_0, (⟨#[]⟩ : ByteArray)⟩ : S117), (⟨false, a0_1, (⟨#[]⟩ : ByteArray)⟩ : S117), (⟨false, a0_2, (⟨#[]⟩ : ByteArray)⟩ : S117), (⟨true, 0, a0_3⟩ : S117), (⟨false, a0_4, (⟨#[]⟩ : ByteArray)⟩ : S117), (⟨false, 0, (⟨#[]⟩ : ByteArray)⟩ : S117)] : List (S117)))).bind fun bt299 => ((tumbrelref01_Seal.f k bt299.1).bind fun bt303 => (some (bt303.1, bt303.2))))) else (some (([] : List Int), 1)))) = some (r1, r2) := h
 clear h
 replace H := Option.bind_eq_some_iff.mp H
 obtain ⟨t284, A20, H⟩ := H
 replace H : (if t284 = true then (if a0_5 = true then ((tumbrelref01_Items.f k (([(⟨false, a0_0, (⟨#[]⟩ : ByteArray)⟩ : S117), (⟨false, a0_1, (⟨#[]⟩ : ByteArray)⟩ : S117), (⟨false, a0_2, (⟨#[]⟩ : ByteArray)⟩ : S117), (⟨true, 0, a0_3⟩ : S117), (⟨false, a0_4, (⟨#[]⟩ : ByteArray)⟩ : S117), (⟨false, 1, (⟨#[]⟩ : ByteArray)⟩ : S117)] : List (S117)))).bind fun bt288 => ((tumbrelref01_Seal.f k bt288.1).bind fun bt292 => (some (bt292.1, bt292.2)))) else ((tumbrelref01_Items.f k (([(⟨false, a0_0, (⟨#[]⟩ : ByteArray)⟩ : S117), (⟨false, a0_1, (⟨#[]⟩ : ByteArray)⟩ : S117), (⟨false, a0_2, (⟨#[]⟩ : ByteArray)⟩ : S117), (⟨true, 0, a0_3⟩ : S117), (⟨false, a0_4, (⟨#[]⟩ : ByteArray)⟩ : S117), (⟨false, 0, (⟨#[]⟩ : ByteArray)⟩ : S117)] : List (S117)))).bind fun bt299 => ((tumbrelref01_Seal.f k bt299.1).bind fun bt303 => (some (bt303.1, bt303.2))))) else (some (([] : List Int), 1))) = some (r1, r2) := H
 have A2 := Aside0.mk A20
 clear A20
 by_cases c3 : t284 = true
 ·subst c3
  have H1 : (if a0_5 = true then ((tumbrelref01_Items.f k (([(⟨false, a0_0, (⟨#[]⟩ : ByteArray)⟩ : S117), (⟨false, a0_1, (⟨#[]⟩ : ByteArray)⟩ : S117), (⟨false, a0_2, (⟨#[]⟩ : ByteArray)⟩ : S117), (⟨true, 0, a0_3⟩ : S117), (⟨false, a0_4, (⟨#[]⟩ : ByteArray)⟩ : S117), (⟨false, 1, (⟨#[]⟩ : ByteArray)⟩ : S117)] : List (S117)))).bind fun bt288 => ((tumbrelref01_Seal.f k bt288.1).bind fun bt292 => (some (bt292.1, bt292.2)))) else ((tumbrelref01_Items.f k (([(⟨false, a0_0, (⟨#[]⟩ : ByteArray)⟩ : S117), (⟨false, a0_1, (⟨#[]⟩ : ByteArray)⟩ : S117), (⟨false, a0_2, (⟨#[]⟩ : ByteArray)⟩ : S117), (⟨true, 0, a0_3⟩ : S117), (⟨false, a0_4, (⟨#[]⟩ : ByteArray)⟩ : S117), (⟨false, 0, (⟨#[]⟩ : ByteArray)⟩ : S117)] : List (S117)))).bind fun bt299 => ((tumbrelref01_Seal.f k bt299.1).bind fun bt303 => (some (bt303.1, bt303.2))))) = some (r1, r2) := by rw [if_pos rfl] at H; exact H
  clear H
  have H := H1
  clear H1
  by_cases c4 : a0_5 = true
  ·subst c4
   have H1 : ((tumbrelref01_Items.f k (([(⟨false, a0_0, (⟨#[]⟩ : ByteArray)⟩ : S117), (⟨false, a0_1, (⟨#[]⟩ : ByteArray)⟩ : S117), (⟨false, a0_2, (⟨#[]⟩ : ByteArray)⟩ : S117), (⟨true, 0, a0_3⟩ : S117), (⟨false, a0_4, (⟨#[]⟩ : ByteArray)⟩ : S117), (⟨false, 1, (⟨#[]⟩ : ByteArray)⟩ : S117)] : List (S117)))).bind fun bt288 => ((tumbrelref01_Seal.f k bt288.1).bind fun bt292 => (some (bt292.1, bt292.2)))) = some (r1, r2) := by rw [if_pos rfl] at H; exact H
   clear H
   have H := H1
   clear H1
   obtain ⟨y285, hy285⟩ : ∃ y_ : List (S117), y_ = (([(⟨false, a0_0, (⟨#[]⟩ : ByteArray)⟩ : S117), (⟨false, a0_1, (⟨#[]⟩ : ByteArray)⟩ : S117), (⟨false, a0_2, (⟨#[]⟩ : ByteArray)⟩ : S117), (⟨true, 0, a0_3⟩ : S117), (⟨false, a0_4, (⟨#[]⟩ : ByteArray)⟩ : S117), (⟨false, 1, (⟨#[]⟩ : ByteArray)⟩ : S117)] : List (S117))) := ⟨_, rfl⟩
   replace H : ((tumbrelref01_Items.f k y285).bind fun bt288 => ((tumbrelref01_Seal.f k bt288.1).bind fun bt292 => (some (bt292.1, bt292.2)))) = some (r1, r2) := by first | (rw [hy285]; with_reducible exact H) | (have H2_ := (Option.bind_some _ _).symm.trans H; rw [hy285]; with_reducible exact H2_) | (have H2_ := (Option.bind_some _ _).symm.trans H; with_reducible exact H2_) | with_reducible exact H | (rw [hy285]; exact H) | exact H
   have Ny285 := Aside0.mk hy285
   clear hy285
   replace H := Option.bind_eq_some_iff.mp H
   obtain ⟨⟨t288, t289⟩, A50, H⟩ := H
   replace H : ((tumbrelref01_Seal.f k t288).bind fun bt292 => (some (bt292.1, bt292.2))) = some (r1, r2) := H
   have A5 := Aside0.mk A50
   clear A50
   replace H := Option.bind_eq_some_iff.mp H
   obtain ⟨⟨t292, t293⟩, A60, H⟩ := H
   replace H : (some (t292, t293)) = some (r1, r2) := H
   have A6 := Aside0.mk A60
   clear A60
   simp only [Option.some.injEq, Prod.mk.injEq] at H
   obtain ⟨rfl, rfl⟩ := H
   go_enter Try.func35, Try.ntmps35
   go_wp2_with (first | ((with_reducible refine gate_dst (N := 1) rfl ?_); refine box_event ?hg (N := 1) ?hd (cs := #[.int .i64 a0_0, .int .i64 a0_1, .int .i64 a0_2, .string a0_3, .int .i64 a0_4, .bool true]) (t := 28) ?hr ?_; (case hd => rfl); (case hg => rfl); (case hr => first | (go_simp; done) | (go_simp; rfl)); intro gb283 hg w7 hbox hb; have n0_ := Aside0.mk (below_step kz6_1 hb); have n1_ := Aside0.mk (hbox); have n2_ := Aside0.mk ((by rw [hg]; exact (below_size kz6_1) : w.heap.size ≤ gb283)); have n3_ := Aside0.mk ((by rw [hg]; exact (below_size kz6_1) : w.heap.size ≤ gb283)); clear HB; have HB := n0_; have BK283 := n1_; have GW283 := n2_; have GE283 := n3_; clear n0_ n1_ n2_ n3_; clear hb hbox hg; have hcz8_0 : w7.cell? ⟨gb283, 0, none⟩ = some (.int .i64 a0_0) := (blk_cell BK283.out 0).trans rfl; have hcz8_1 : w7.cell? ⟨gb283, 1, none⟩ = some (.int .i64 a0_1) := (blk_cell BK283.out 1).trans rfl; have hcz8_2 : w7.cell? ⟨gb283, 2, none⟩ = some (.int .i64 a0_2) := (blk_cell BK283.out 2).trans rfl; have hcz8_3 : w7.cell? ⟨gb283, 3, none⟩ = some (.string a0_3) := (blk_cell BK283.out 3).trans rfl; have hcz8_4 : w7.cell? ⟨gb283, 4, none⟩ = some (.int .i64 a0_4) := (blk_cell BK283.out 4).trans rfl; have hcz8_5 : w7.cell? ⟨gb283, 5, none⟩ = some (.bool true) := (blk_cell BK283.out 5).trans rfl; have hfz8_0 := blk_frozen BK283.out 0; have hfz8_1 := blk_frozen BK283.out 1; have hfz8_2 := blk_frozen BK283.out 2; have hfz8_3 := blk_frozen BK283.out 3; have hfz8_4 := blk_frozen BK283.out 4; have hfz8_5 := blk_frozen BK283.out 5) | ((with_reducible refine gate_callee (f := 37) rfl ?_); refine goesL_ (some 8) rfl rfl Try.func37 (by kernel_rfl) rfl #[.agg #[.int .i64 a0_0, .int .i64 a0_1, .int .i64 a0_2, .string a0_3, .int .i64 a0_4, .bool true]] rfl kz6_4 ?_; (with_reducible refine (tumbrelref18_Formed.calls a0_0 a0_1 a0_2 a0_3 a0_4 true true _ A2.out).mono ?_); rintro e w9 ⟨rfl, hb⟩; refine ⟨_, rfl, ?_⟩; have n0_ := Aside0.mk (blk_below (g := gb283) (o := .cells #[.int .i64 a0_0, .int .i64 a0_1, .int .i64 a0_2, .string a0_3, .int .i64 a0_4, .bool true] 28 (0, 0)) kz6_5 hb); have n1_ := Aside0.mk (below_step kz6_2 hb); clear BK283; clear HB; have BK283 := n0_; have HB := n1_; clear n0_ n1_; (try clear hb); (try clear hb2); (try clear hk); (try clear hi); have hcz10_0 : w9.cell? ⟨gb283, 0, none⟩ = some (.int .i64 a0_0) := (blk_cell BK283.out 0).trans rfl; have hcz10_1 : w9.cell? ⟨gb283, 1, none⟩ = some (.int .i64 a0_1) := (blk_cell BK283.out 1).trans rfl; have hcz10_2 : w9.cell? ⟨gb283, 2, none⟩ = some (.int .i64 a0_2) := (blk_cell BK283.out 2).trans rfl; have hcz10_3 : w9.cell? ⟨gb283, 3, none⟩ = some (.string a0_3) := (blk_cell BK283.out 3).trans rfl; have hcz10_4 : w9.cell? ⟨gb283, 4, none⟩ = some (.int .i64 a0_4) := (blk_cell BK283.out 4).trans rfl; have hcz10_5 : w9.cell? ⟨gb283, 5, none⟩ = some (.bool true) := (blk_cell BK283.out 5).trans rfl; have hfz10_0 := blk_frozen BK283.out 0; have hfz10_1 := blk_frozen BK283.out 1; have hfz10_2 := blk_frozen BK283.out 2; have hfz10_3 := blk_frozen BK283.out 3; have hfz10_4 := blk_frozen BK283.out 4; have hfz10_5 := blk_frozen BK283.out 5) | ((with_reducible refine gate_dst (N := 30) rfl ?_); refine Kd.R_lit k117 _ 117 ?hg (N := 30) ?hd (xs := ([(⟨false, a0_0, (⟨#[]⟩ : ByteArray)⟩ : S117), (⟨false, a0_1, (⟨#[]⟩ : ByteArray)⟩ : S117), (⟨false, a0_2, (⟨#[]⟩ : ByteArray)⟩ : S117), (⟨true, 0, a0_3⟩ : S117), (⟨false, a0_4, (⟨#[]⟩ : ByteArray)⟩ : S117), (⟨false, 1, (⟨#[]⟩ : ByteArray)⟩ : S117)] : List (S117))) (inner := [.bool false, .int .i64 a0_0, .string (⟨#[]⟩ : ByteArray), .bool false, .int .i64 a0_1, .string (⟨#[]⟩ : ByteArray), .bool false, .int .i64 a0_2, .string (⟨#[]⟩ : ByteArray), .bool true, .int .i64 0, .string a0_3, .bool false, .int .i64 a0_4, .string (⟨#[]⟩ : ByteArray), .bool false, .int .i64 1, .string (⟨#[]⟩ : ByteArray)]) (ok := fun _ => True) (okp := fun _ => True) ?hr ?hp (fun _ hk => hk) trivial (Below.refl _ _) (Nat.le_refl _) (by simp) ?_; (case hd => rfl); (case hg => rfl); (case hr => first | (go_simp; done) | (go_simp; rfl)); (case hp => exact (Reps.c3 (show Kd.M k117 _ _ _ (⟨false, a0_0, (⟨#[]⟩ : ByteArray)⟩ : S117) [.bool false, .int .i64 a0_0, .string (⟨#[]⟩ : ByteArray)] from (k117_mkM _ _ _ (⟨false, a0_0, (⟨#[]⟩ : ByteArray)⟩ : S117) )) (Reps.c3 (show Kd.M k117 _ _ _ (⟨false, a0_1, (⟨#[]⟩ : ByteArray)⟩ : S117) [.bool false, .int .i64 a0_1, .string (⟨#[]⟩ : ByteArray)] from (k117_mkM _ _ _ (⟨false, a0_1, (⟨#[]⟩ : ByteArray)⟩ : S117) )) (Reps.c3 (show Kd.M k117 _ _ _ (⟨false, a0_2, (⟨#[]⟩ : ByteArray)⟩ : S117) [.bool false, .int .i64 a0_2, .string (⟨#[]⟩ : ByteArray)] from (k117_mkM _ _ _ (⟨false, a0_2, (⟨#[]⟩ : ByteArray)⟩ : S117) )) (Reps.c3 (show Kd.M k117 _ _ _ (⟨true, 0, a0_3⟩ : S117) [.bool true, .int .i64 0, .string a0_3] from (k117_mkM _ _ _ (⟨true, 0, a0_3⟩ : S117) )) (Reps.c3 (show Kd.M k117 _ _ _ (⟨false, a0_4, (⟨#[]⟩ : ByteArray)⟩ : S117) [.bool false, .int .i64 a0_4, .string (⟨#[]⟩ : ByteArray)] from (k117_mkM _ _ _ (⟨false, a0_4, (⟨#[]⟩ : ByteArray)⟩ : S117) )) (Reps.c3 (show Kd.M k117 _ _ _ (⟨false, 1, (⟨#[]⟩ : ByteArray)⟩ : S117) [.bool false, .int .i64 1, .string (⟨#[]⟩ : ByteArray)] from (k117_mkM _ _ _ (⟨false, 1, (⟨#[]⟩ : ByteArray)⟩ : S117) )) (Reps.none _ _)))))))); intro v286 w11 ho12 hb hg_ hnew_; clear hg_ hnew_; (first | rw [← Ny285.out] at ho12 | (simp only [Int.reduceToNat] at ho12; rw [← Ny285.out] at ho12)); have n0_ := Aside0.mk (Kd.R_lower ho12 (below_size kz6_2)); have n1_ := Aside0.mk (blk_below (g := gb283) (o := .cells #[.int .i64 a0_0, .int .i64 a0_1, .int .i64 a0_2, .string a0_3, .int .i64 a0_4, .bool true] 28 (0, 0)) kz6_5 hb); have n2_ := Aside0.mk (below_step kz6_2 hb); clear BK283; clear HB; have HO287 := n0_; have BK283 := n1_; have HB := n2_; clear n0_ n1_ n2_; clear hb ho12; obtain ⟨Ao13, co13, eo13⟩ := Kd.R_slice HO287.out; subst eo13) | ((with_reducible refine gate_callee (f := 56) rfl ?_); refine goesL_ (some 31) rfl rfl Try.func56 (by kernel_rfl) rfl #[.slice Ao13 y285.length co13] rfl kz6_4 ?_; (with_reducible refine (tumbrelref01_Items.calls k _ _ y285 t288 t289 _ ?side1 ?side2 A5.out).mono ?_); (case side1 => repeat (first | exact (Kd.R_reads' HO287.out).2.2 | (with_reducible refine Kd.C_alloc ?_ _) | (with_reducible refine Kd.C_drewN ?_ _) | (with_reducible refine Kd.C_drew ?_))); (case side2 => exact (Kd.R_reads' HO287.out).2.1); rintro e w14 ⟨v290, rfl, ho0, hb⟩; refine ⟨_, rfl, ?_⟩; have n0_ := Aside0.mk (Kd.R_below (by (with_reducible repeat (first | apply Kd.R_alloc | apply Kd.R_drewN | apply Kd.R_drew)); exact HO287.out) hb); have n1_ := Aside0.mk (Kd.R_lower ho0 (below_size kz6_2)); have n2_ := Aside0.mk (blk_below (g := gb283) (o := .cells #[.int .i64 a0_0, .int .i64 a0_1, .int .i64 a0_2, .string a0_3, .int .i64 a0_4, .bool true] 28 (0, 0)) kz6_5 hb); have n3_ := Aside0.mk (below_step kz6_2 hb); clear HO287; clear BK283; clear HB; have HO287 := n0_; have HO291 := n1_; have BK283 := n2_; have HB := n3_; clear n0_ n1_ n2_ n3_; (try clear hb); (try clear hb2); (try clear hk); (try clear hi); (try clear ho0); obtain ⟨Ao15, co15, eo15⟩ := Kd.R_slice HO291.out; subst eo15) | ((with_reducible refine gate_callee (f := 57) rfl ?_); refine goesL_ (some 35) rfl rfl Try.func57 (by kernel_rfl) rfl #[.slice Ao15 t288.length co15] rfl kz6_4 ?_; (with_reducible refine (tumbrelref01_Seal.calls k _ _ t288 t292 t293 _ ?side1 ?side2 A6.out).mono ?_); (case side1 => repeat (first | exact (Kd.R_reads' HO291.out).2.2 | (with_reducible refine Kd.C_alloc ?_ _) | (with_reducible refine Kd.C_drewN ?_ _) | (with_reducible refine Kd.C_drew ?_))); (case side2 => exact (Kd.R_reads' HO291.out).2.1); rintro e w16 ⟨v294, rfl, ho0, hb⟩; refine ⟨_, rfl, ?_⟩; have n0_ := Aside0.mk (Kd.R_below (by (with_reducible repeat (first | apply Kd.R_alloc | apply Kd.R_drewN | apply Kd.R_drew)); exact HO287.out) hb); have n1_ := Aside0.mk (Kd.R_elder' (by (with_reducible repeat (first | apply Kd.R_alloc | apply Kd.R_drewN | apply Kd.R_drew)); exact HO291.out) (Kd.R_base ho0) hb); have n2_ := Aside0.mk (Kd.R_lower (Kd.R_new' ho0 (Kd.R_lt (by (with_reducible repeat (first | apply Kd.R_alloc | apply Kd.R_drewN | apply Kd.R_drew)); exact HO291.out))) (below_size kz6_2)); have n3_ := Aside0.mk (blk_below (g := gb283) (o := .cells #[.int .i64 a0_0, .int .i64 a0_1, .int .i64 a0_2, .string a0_3, .int .i64 a0_4, .bool true] 28 (0, 0)) kz6_5 hb); have n4_ := Aside0.mk (below_step kz6_2 hb); clear HO287; clear HO291; clear BK283; clear HB; have HO287 := n0_; have HO291 := n1_; have HO295 := n2_; have BK283 := n3_; have HB := n4_; clear n0_ n1_ n2_ n3_ n4_; (try clear hb); (try clear hb2); (try clear hk); (try clear hi); (try clear ho0)))
   go_ret2
   exact ⟨_, by first | rfl | (simp [errW_none, errW_some] <;> rfl) | (simp [*, errW_none, errW_some] <;> rfl), by (with_reducible repeat (first | apply Kd.R_alloc | apply Kd.R_drewN | apply Kd.R_drew)); exact Kd.R_mono HO295.out (fun _ hk => trivial), by repeat (first | (with_reducible first | exact HB.out | apply below_alloc | apply pw_below_drewN | apply below_drew1 | refine below_set ?_ GE283.out) | exact HB.out)⟩
  ·replace c4 := Bool.eq_false_iff.mpr c4
   subst c4
   have H1 : ((tumbrelref01_Items.f k (([(⟨false, a0_0, (⟨#[]⟩ : ByteArray)⟩ : S117), (⟨false, a0_1, (⟨#[]⟩ : ByteArray)⟩ : S117), (⟨false, a0_2, (⟨#[]⟩ : ByteArray)⟩ : S117), (⟨true, 0, a0_3⟩ : S117), (⟨false, a0_4, (⟨#[]⟩ : ByteArray)⟩ : S117), (⟨false, 0, (⟨#[]⟩ : ByteArray)⟩ : S117)] : List (S117)))).bind fun bt299 => ((tumbrelref01_Seal.f k bt299.1).bind fun bt303 => (some (bt303.1, bt303.2)))) = some (r1, r2) := by rw [if_neg (show ¬ (false = true) by decide)] at H; exact H
   clear H
   have H := H1
   clear H1
   obtain ⟨y296, hy296⟩ : ∃ y_ : List (S117), y_ = (([(⟨false, a0_0, (⟨#[]⟩ : ByteArray)⟩ : S117), (⟨false, a0_1, (⟨#[]⟩ : ByteArray)⟩ : S117), (⟨false, a0_2, (⟨#[]⟩ : ByteArray)⟩ : S117), (⟨true, 0, a0_3⟩ : S117), (⟨false, a0_4, (⟨#[]⟩ : ByteArray)⟩ : S117), (⟨false, 0, (⟨#[]⟩ : ByteArray)⟩ : S117)] : List (S117))) := ⟨_, rfl⟩
   replace H : ((tumbrelref01_Items.f k y296).bind fun bt299 => ((tumbrelref01_Seal.f k bt299.1).bind fun bt303 => (some (bt303.1, bt303.2)))) = some (r1, r2) := by first | (rw [hy296]; with_reducible exact H) | (have H2_ := (Option.bind_some _ _).symm.trans H; rw [hy296]; with_reducible exact H2_) | (have H2_ := (Option.bind_some _ _).symm.trans H; with_reducible exact H2_) | with_reducible exact H | (rw [hy296]; exact H) | exact H
   have Ny296 := Aside0.mk hy296
   clear hy296
   replace H := Option.bind_eq_some_iff.mp H
   obtain ⟨⟨t299, t300⟩, A170, H⟩ := H
   replace H : ((tumbrelref01_Seal.f k t299).bind fun bt303 => (some (bt303.1, bt303.2))) = some (r1, r2) := H
   have A17 := Aside0.mk A170
   clear A170
   replace H := Option.bind_eq_some_iff.mp H
   obtain ⟨⟨t303, t304⟩, A180, H⟩ := H
   replace H : (some (t303, t304)) = some (r1, r2) := H
   have A18 := Aside0.mk A180
   clear A180
   simp only [Option.some.injEq, Prod.mk.injEq] at H
   obtain ⟨rfl, rfl⟩ := H
   go_enter Try.func35, Try.ntmps35
   go_wp2_with (first | ((with_reducible refine gate_dst (N := 1) rfl ?_); refine box_event ?hg (N := 1) ?hd (cs := #[.int .i64 a0_0, .int .i64 a0_1, .int .i64 a0_2, .string a0_3, .int .i64 a0_4, .bool false]) (t := 28) ?hr ?_; (case hd => rfl); (case hg => rfl); (case hr => first | (go_simp; done) | (go_simp; rfl)); intro gb283 hg w19 hbox hb; have n0_ := Aside0.mk (below_step kz6_1 hb); have n1_ := Aside0.mk (hbox); have n2_ := Aside0.mk ((by rw [hg]; exact (below_size kz6_1) : w.heap.size ≤ gb283)); have n3_ := Aside0.mk ((by rw [hg]; exact (below_size kz6_1) : w.heap.size ≤ gb283)); clear HB; have HB := n0_; have BK283 := n1_; have GW283 := n2_; have GE283 := n3_; clear n0_ n1_ n2_ n3_; clear hb hbox hg; have hcz20_0 : w19.cell? ⟨gb283, 0, none⟩ = some (.int .i64 a0_0) := (blk_cell BK283.out 0).trans rfl; have hcz20_1 : w19.cell? ⟨gb283, 1, none⟩ = some (.int .i64 a0_1) := (blk_cell BK283.out 1).trans rfl; have hcz20_2 : w19.cell? ⟨gb283, 2, none⟩ = some (.int .i64 a0_2) := (blk_cell BK283.out 2).trans rfl; have hcz20_3 : w19.cell? ⟨gb283, 3, none⟩ = some (.string a0_3) := (blk_cell BK283.out 3).trans rfl; have hcz20_4 : w19.cell? ⟨gb283, 4, none⟩ = some (.int .i64 a0_4) := (blk_cell BK283.out 4).trans rfl; have hcz20_5 : w19.cell? ⟨gb283, 5, none⟩ = some (.bool false) := (blk_cell BK283.out 5).trans rfl; have hfz20_0 := blk_frozen BK283.out 0; have hfz20_1 := blk_frozen BK283.out 1; have hfz20_2 := blk_frozen BK283.out 2; have hfz20_3 := blk_frozen BK283.out 3; have hfz20_4 := blk_frozen BK283.out 4; have hfz20_5 := blk_frozen BK283.out 5) | ((with_reducible refine gate_callee (f := 37) rfl ?_); refine goesL_ (some 8) rfl rfl Try.func37 (by kernel_rfl) rfl #[.agg #[.int .i64 a0_0, .int .i64 a0_1, .int .i64 a0_2, .string a0_3, .int .i64 a0_4, .bool false]] rfl kz6_4 ?_; (with_reducible refine (tumbrelref18_Formed.calls a0_0 a0_1 a0_2 a0_3 a0_4 false true _ A2.out).mono ?_); rintro e w21 ⟨rfl, hb⟩; refine ⟨_, rfl, ?_⟩; have n0_ := Aside0.mk (blk_below (g := gb283) (o := .cells #[.int .i64 a0_0, .int .i64 a0_1, .int .i64 a0_2, .string a0_3, .int .i64 a0_4, .bool false] 28 (0, 0)) kz6_5 hb); have n1_ := Aside0.mk (below_step kz6_2 hb); clear BK283; clear HB; have BK283 := n0_; have HB := n1_; clear n0_ n1_; (try clear hb); (try clear hb2); (try clear hk); (try clear hi); have hcz22_0 : w21.cell? ⟨gb283, 0, none⟩ = some (.int .i64 a0_0) := (blk_cell BK283.out 0).trans rfl; have hcz22_1 : w21.cell? ⟨gb283, 1, none⟩ = some (.int .i64 a0_1) := (blk_cell BK283.out 1).trans rfl; have hcz22_2 : w21.cell? ⟨gb283, 2, none⟩ = some (.int .i64 a0_2) := (blk_cell BK283.out 2).trans rfl; have hcz22_3 : w21.cell? ⟨gb283, 3, none⟩ = some (.string a0_3) := (blk_cell BK283.out 3).trans rfl; have hcz22_4 : w21.cell? ⟨gb283, 4, none⟩ = some (.int .i64 a0_4) := (blk_cell BK283.out 4).trans rfl; have hcz22_5 : w21.cell? ⟨gb283, 5, none⟩ = some (.bool false) := (blk_cell BK283.out 5).trans rfl; have hfz22_0 := blk_frozen BK283.out 0; have hfz22_1 := blk_frozen BK283.out 1; have hfz22_2 := blk_frozen BK283.out 2; have hfz22_3 := blk_frozen BK283.out 3; have hfz22_4 := blk_frozen BK283.out 4; have hfz22_5 := blk_frozen BK283.out 5) | ((with_reducible refine gate_dst (N := 30) rfl ?_); refine Kd.R_lit k117 _ 117 ?hg (N := 30) ?hd (xs := ([(⟨false, a0_0, (⟨#[]⟩ : ByteArray)⟩ : S117), (⟨false, a0_1, (⟨#[]⟩ : ByteArray)⟩ : S117), (⟨false, a0_2, (⟨#[]⟩ : ByteArray)⟩ : S117), (⟨true, 0, a0_3⟩ : S117), (⟨false, a0_4, (⟨#[]⟩ : ByteArray)⟩ : S117), (⟨false, 0, (⟨#[]⟩ : ByteArray)⟩ : S117)] : List (S117))) (inner := [.bool false, .int .i64 a0_0, .string (⟨#[]⟩ : ByteArray), .bool false, .int .i64 a0_1, .string (⟨#[]⟩ : ByteArray), .bool false, .int .i64 a0_2, .string (⟨#[]⟩ : ByteArray), .bool true, .int .i64 0, .string a0_3, .bool false, .int .i64 a0_4, .string (⟨#[]⟩ : ByteArray), .bool false, .int .i64 0, .string (⟨#[]⟩ : ByteArray)]) (ok := fun _ => True) (okp := fun _ => True) ?hr ?hp (fun _ hk => hk) trivial (Below.refl _ _) (Nat.le_refl _) (by simp) ?_; (case hd => rfl); (case hg => rfl); (case hr => first | (go_simp; done) | (go_simp; rfl)); (case hp => exact (Reps.c3 (show Kd.M k117 _ _ _ (⟨false, a0_0, (⟨#[]⟩ : ByteArray)⟩ : S117) [.bool false, .int .i64 a0_0, .string (⟨#[]⟩ : ByteArray)] from (k117_mkM _ _ _ (⟨false, a0_0, (⟨#[]⟩ : ByteArray)⟩ : S117) )) (Reps.c3 (show Kd.M k117 _ _ _ (⟨false, a0_1, (⟨#[]⟩ : ByteArray)⟩ : S117) [.bool false, .int .i64 a0_1, .string (⟨#[]⟩ : ByteArray)] from (k117_mkM _ _ _ (⟨false, a0_1, (⟨#[]⟩ : ByteArray)⟩ : S117) )) (Reps.c3 (show Kd.M k117 _ _ _ (⟨false, a0_2, (⟨#[]⟩ : ByteArray)⟩ : S117) [.bool false, .int .i64 a0_2, .string (⟨#[]⟩ : ByteArray)] from (k117_mkM _ _ _ (⟨false, a0_2, (⟨#[]⟩ : ByteArray)⟩ : S117) )) (Reps.c3 (show Kd.M k117 _ _ _ (⟨true, 0, a0_3⟩ : S117) [.bool true, .int .i64 0, .string a0_3] from (k117_mkM _ _ _ (⟨true, 0, a0_3⟩ : S117) )) (Reps.c3 (show Kd.M k117 _ _ _ (⟨false, a0_4, (⟨#[]⟩ : ByteArray)⟩ : S117) [.bool false, .int .i64 a0_4, .string (⟨#[]⟩ : ByteArray)] from (k117_mkM _ _ _ (⟨false, a0_4, (⟨#[]⟩ : ByteArray)⟩ : S117) )) (Reps.c3 (show Kd.M k117 _ _ _ (⟨false, 0, (⟨#[]⟩ : ByteArray)⟩ : S117) [.bool false, .int .i64 0, .string (⟨#[]⟩ : ByteArray)] from (k117_mkM _ _ _ (⟨false, 0, (⟨#[]⟩ : ByteArray)⟩ : S117) )) (Reps.none _ _)))))))); intro v297 w23 ho24 hb hg_ hnew_; clear hg_ hnew_; (first | rw [← Ny296.out] at ho24 | (simp only [Int.reduceToNat] at ho24; rw [← Ny296.out] at ho24)); have n0_ := Aside0.mk (Kd.R_lower ho24 (below_size kz6_2)); have n1_ := Aside0.mk (blk_below (g := gb283) (o := .cells #[.int .i64 a0_0, .int .i64 a0_1, .int .i64 a0_2, .string a0_3, .int .i64 a0_4, .bool false] 28 (0, 0)) kz6_5 hb); have n2_ := Aside0.mk (below_step kz6_2 hb); clear BK283; clear HB; have HO298 := n0_; have BK283 := n1_; have HB := n2_; clear n0_ n1_ n2_; clear hb ho24; obtain ⟨Ao25, co25, eo25⟩ := Kd.R_slice HO298.out; subst eo25) | ((with_reducible refine gate_callee (f := 56) rfl ?_); refine goesL_ (some 31) rfl rfl Try.func56 (by kernel_rfl) rfl #[.slice Ao25 y296.length co25] rfl kz6_4 ?_; (with_reducible refine (tumbrelref01_Items.calls k _ _ y296 t299 t300 _ ?side1 ?side2 A17.out).mono ?_); (case side1 => repeat (first | exact (Kd.R_reads' HO298.out).2.2 | (with_reducible refine Kd.C_alloc ?_ _) | (with_reducible refine Kd.C_drewN ?_ _) | (with_reducible refine Kd.C_drew ?_))); (case side2 => exact (Kd.R_reads' HO298.out).2.1); rintro e w26 ⟨v301, rfl, ho0, hb⟩; refine ⟨_, rfl, ?_⟩; have n0_ := Aside0.mk (Kd.R_below (by (with_reducible repeat (first | apply Kd.R_alloc | apply Kd.R_drewN | apply Kd.R_drew)); exact HO298.out) hb); have n1_ := Aside0.mk (Kd.R_lower ho0 (below_size kz6_2)); have n2_ := Aside0.mk (blk_below (g := gb283) (o := .cells #[.int .i64 a0_0, .int .i64 a0_1, .int .i64 a0_2, .string a0_3, .int .i64 a0_4, .bool false] 28 (0, 0)) kz6_5 hb); have n3_ := Aside0.mk (below_step kz6_2 hb); clear HO298; clear BK283; clear HB; have HO298 := n0_; have HO302 := n1_; have BK283 := n2_; have HB := n3_; clear n0_ n1_ n2_ n3_; (try clear hb); (try clear hb2); (try clear hk); (try clear hi); (try clear ho0); obtain ⟨Ao27, co27, eo27⟩ := Kd.R_slice HO302.out; subst eo27) | ((with_reducible refine gate_callee (f := 57) rfl ?_); refine goesL_ (some 35) rfl rfl Try.func57 (by kernel_rfl) rfl #[.slice Ao27 t299.length co27] rfl kz6_4 ?_; (with_reducible refine (tumbrelref01_Seal.calls k _ _ t299 t303 t304 _ ?side1 ?side2 A18.out).mono ?_); (case side1 => repeat (first | exact (Kd.R_reads' HO302.out).2.2 | (with_reducible refine Kd.C_alloc ?_ _) | (with_reducible refine Kd.C_drewN ?_ _) | (with_reducible refine Kd.C_drew ?_))); (case side2 => exact (Kd.R_reads' HO302.out).2.1); rintro e w28 ⟨v305, rfl, ho0, hb⟩; refine ⟨_, rfl, ?_⟩; have n0_ := Aside0.mk (Kd.R_below (by (with_reducible repeat (first | apply Kd.R_alloc | apply Kd.R_drewN | apply Kd.R_drew)); exact HO298.out) hb); have n1_ := Aside0.mk (Kd.R_elder' (by (with_reducible repeat (first | apply Kd.R_alloc | apply Kd.R_drewN | apply Kd.R_drew)); exact HO302.out) (Kd.R_base ho0) hb); have n2_ := Aside0.mk (Kd.R_lower (Kd.R_new' ho0 (Kd.R_lt (by (with_reducible repeat (first | apply Kd.R_alloc | apply Kd.R_drewN | apply Kd.R_drew)); exact HO302.out))) (below_size kz6_2)); have n3_ := Aside0.mk (blk_below (g := gb283) (o := .cells #[.int .i64 a0_0, .int .i64 a0_1, .int .i64 a0_2, .string a0_3, .int .i64 a0_4, .bool false] 28 (0, 0)) kz6_5 hb); have n4_ := Aside0.mk (below_step kz6_2 hb); clear HO298; clear HO302; clear BK283; clear HB; have HO298 := n0_; have HO302 := n1_; have HO306 := n2_; have BK283 := n3_; have HB := n4_; clear n0_ n1_ n2_ n3_ n4_; (try clear hb); (try clear hb2); (try clear hk); (try clear hi); (try clear ho0)))
   go_ret2
   exact ⟨_, by first | rfl | (simp [errW_none, errW_some] <;> rfl) | (simp [*, errW_none, errW_some] <;> rfl), by (with_reducible repeat (first | apply Kd.R_alloc | apply Kd.R_drewN | apply Kd.R_drew)); exact Kd.R_mono HO306.out (fun _ hk => trivial), by repeat (first | (with_reducible first | exact HB.out | apply below_alloc | apply pw_below_drewN | apply below_drew1 | refine below_set ?_ GE283.out) | exact HB.out)⟩
 ·replace c3 := Bool.eq_false_iff.mpr c3
  subst c3
  have H1 : (some (([] : List Int), 1)) = some (r1, r2) := by rw [if_neg (show ¬ (false = true) by decide)] at H; exact H
  clear H
  have H := H1
  clear H1
  simp only [Option.some.injEq, Prod.mk.injEq] at H
  obtain ⟨rfl, rfl⟩ := H
  go_enter Try.func35, Try.ntmps35
  go_wp2_with (first | ((with_reducible refine gate_dst (N := 1) rfl ?_); refine box_event ?hg (N := 1) ?hd (cs := #[.int .i64 a0_0, .int .i64 a0_1, .int .i64 a0_2, .string a0_3, .int .i64 a0_4, .bool a0_5]) (t := 28) ?hr ?_; (case hd => rfl); (case hg => rfl); (case hr => first | (go_simp; done) | (go_simp; rfl)); intro gb283 hg w29 hbox hb; have n0_ := Aside0.mk (below_step kz6_1 hb); have n1_ := Aside0.mk (hbox); have n2_ := Aside0.mk ((by rw [hg]; exact (below_size kz6_1) : w.heap.size ≤ gb283)); have n3_ := Aside0.mk ((by rw [hg]; exact (below_size kz6_1) : w.heap.size ≤ gb283)); clear HB; have HB := n0_; have BK283 := n1_; have GW283 := n2_; have GE283 := n3_; clear n0_ n1_ n2_ n3_; clear hb hbox hg; have hcz30_0 : w29.cell? ⟨gb283, 0, none⟩ = some (.int .i64 a0_0) := (blk_cell BK283.out 0).trans rfl; have hcz30_1 : w29.cell? ⟨gb283, 1, none⟩ = some (.int .i64 a0_1) := (blk_cell BK283.out 1).trans rfl; have hcz30_2 : w29.cell? ⟨gb283, 2, none⟩ = some (.int .i64 a0_2) := (blk_cell BK283.out 2).trans rfl; have hcz30_3 : w29.cell? ⟨gb283, 3, none⟩ = some (.string a0_3) := (blk_cell BK283.out 3).trans rfl; have hcz30_4 : w29.cell? ⟨gb283, 4, none⟩ = some (.int .i64 a0_4) := (blk_cell BK283.out 4).trans rfl; have hcz30_5 : w29.cell? ⟨gb283, 5, none⟩ = some (.bool a0_5) := (blk_cell BK283.out 5).trans rfl; have hfz30_0 := blk_frozen BK283.out 0; have hfz30_1 := blk_frozen BK283.out 1; have hfz30_2 := blk_frozen BK283.out 2; have hfz30_3 := blk_frozen BK283.out 3; have hfz30_4 := blk_frozen BK283.out 4; have hfz30_5 := blk_frozen BK283.out 5) | ((with_reducible refine gate_callee (f := 37) rfl ?_); refine goesL_ (some 8) rfl rfl Try.func37 (by kernel_rfl) rfl #[.agg #[.int .i64 a0_0, .int .i64 a0_1, .int .i64 a0_2, .string a0_3, .int .i64 a0_4, .bool a0_5]] rfl kz6_4 ?_; (with_reducible refine (tumbrelref18_Formed.calls a0_0 a0_1 a0_2 a0_3 a0_4 a0_5 false _ A2.out).mono ?_); rintro e w31 ⟨rfl, hb⟩; refine ⟨_, rfl, ?_⟩; have n0_ := Aside0.mk (blk_below (g := gb283) (o := .cells #[.int .i64 a0_0, .int .i64 a0_1, .int .i64 a0_2, .string a0_3, .int .i64 a0_4, .bool a0_5] 28 (0, 0)) kz6_5 hb); have n1_ := Aside0.mk (below_step kz6_2 hb); clear BK283; clear HB; have BK283 := n0_; have HB := n1_; clear n0_ n1_; (try clear hb); (try clear hb2); (try clear hk); (try clear hi)))
  go_ret2
  exact ⟨_, by first | rfl | (simp [errW_none, errW_some] <;> rfl) | (simp [*, errW_none, errW_some] <;> rfl), by first | exact Kd.R_nil _ _ _ _ _ | exact Kd.N_nil _ _ _ _ _ | exact Kd.V_nil _ _ _ _ _ | exact Kd.Q_nil _ _ _ _ _ | exact Kd.S_nil _ _ _ _ _, by repeat (first | (with_reducible first | exact HB.out | apply below_alloc | apply pw_below_drewN | apply below_drew1 | refine below_set ?_ GE283.out) | exact HB.out)⟩

/-! ### seal_of: function 75 -/
def seal_of.f (l0 : List Int) : Option (Int) := if 0 < (l0.length : Int) then (if 1 < (l0.length : Int) then (some (Go.bits .or .u16 (IntKind.u16.wrap ((IntKind.u16.wrap (rd l0 0)) * 256)) (IntKind.u16.wrap (rd l0 1)))) else (none)) else (none)
set_option maxHeartbeats 8000000 in
set_option maxRecDepth 100000 in
theorem seal_of.calls (A0 : Option Addr) (c0 : Nat) (l0 : List Int) (r : Int) (w : World) (hr0 : Kd.C (Kd.int .u8) w A0 l0.length l0) (hc0 : l0.length ≤ c0) (h : seal_of.f l0 = some r) :
  Calls Try.prog 75 #[.slice A0 l0.length c0] w fun e w' => e = .returned (.int .u16 r) ∧ Drawn0 w w' := by
 have HR0 := Aside0.mk hr0
 have HC0 := Aside0.mk hc0
 clear hr0 hc0
 have H : (if 0 < (l0.length : Int) then (if 1 < (l0.length : Int) then (some (Go.bits .or .u16 (IntKind.u16.wrap ((IntKind.u16.wrap (rd l0 0)) * 256)) (IntKind.u16.wrap (rd l0 1)))) else (none)) else (none)) = some r := h
 clear h
 by_cases c2 : 0 < (l0.length : Int)
 ·rw [if_pos c2] at H
  have c2b0 : decide (0 < (l0.length : Int)) = true := decide_eq_true c2
  have c2b1 : decide (0 < l0.length) = true := decide_eq_true (by omega)
  clear c2
  by_cases c3 : 1 < (l0.length : Int)
  ·rw [if_pos c3] at H
   have c3b0 : decide (1 < (l0.length : Int)) = true := decide_eq_true c3
   have c3b1 : decide (1 < l0.length) = true := decide_eq_true (by omega)
   clear c3
   obtain rfl := Option.some.inj H
   have p307 : 0 ≤ (0 : Int) := (by omega)
   have q307 : 0 < (l0.length : Int) := of_decide_eq_true kz6_3
   obtain ⟨ad307, e307, hx307_0⟩ := Kd.at_int HR0.out 0 p307 q307
   cases e307
   have qi307 : (0 < l0.length) = True := eq_true (by omega)
   (try rw [show ((0 : Int)).toNat = 0 from rfl] at hx307_0)
   (try rw [Addr.add_zero'] at hx307_0)
   replace p307 := eq_true p307
   replace q307 := eq_true q307
   have p308 : 0 ≤ (1 : Int) := (by omega)
   have q308 : 1 < (l0.length : Int) := of_decide_eq_true kz6_3
   obtain ⟨ad308, e308, hx308_0⟩ := Kd.at_int HR0.out 1 p308 q308
   obtain rfl : ad307 = ad308 := (by injection e308)
   (try simp only [show (1 : Int).toNat = 1 from rfl, Nat.reduceMul, Nat.reduceEqDiff, Go.Addr.add, ↓reduceIte] at hx308_0)
   have qi308 : (1 < l0.length) = True := eq_true (by omega)
   (try rw [show ((1 : Int)).toNat = 1 from rfl] at hx308_0)
   replace p308 := eq_true p308
   replace q308 := eq_true q308
   go_enter Try.func75, Try.ntmps75
   go_wp2
   repeat (go_quiet (fail); try go_wp2)
   go_ret
   exact ⟨by first | rfl | (simp; done) | (simp [*]; done), by repeat (first | exact Drawn0.refl _ | apply Drawn0.step)⟩
  ·rw [if_neg c3] at H
   exact absurd H (by simp)
 ·rw [if_neg c2] at H
  exact absurd H (by simp)

/-! ### slices_Clone_byte_byte: function 76 -/
def slices_Clone_byte_byte.f (l0 : List Int) : Option (List Int) := (some (([] : List Int) : List Int)).bind fun y309 => (if y309.length + l0.length < 140737488355328 then (some (y309 ++ l0)) else (none))
set_option maxHeartbeats 8000000 in
set_option maxRecDepth 100000 in
theorem slices_Clone_byte_byte.calls (A0 : Option Addr) (c0 : Nat) (l0 : List Int) (r : List Int) (w : World) (hr0 : Kd.C (Kd.int .u8) w A0 l0.length l0) (hc0 : l0.length ≤ c0) (h : slices_Clone_byte_byte.f l0 = some r) :
  Calls Try.prog 76 #[.slice A0 l0.length c0] w fun e w' => ∃ v0_ : Value, e = .returned (v0_) ∧ Kd.R (Kd.int .u8) 5 w' w.heap.size (fun _ => True) v0_ r ∧ Below w.heap.size w w' := by
 have hq : ∀ (W : World) (a : Option Addr) (n c n' c' : Nat), (binOp .eql 50 (.slice a n c) (.slice none n' c')).run Try.prog W = .ok (.bool a.isNone) W := fun W a n c n' c' => Lib.run_eql_slice_nil W _ _ a n c n' c' Try.underlying50
 by_cases hnil : A0 = none
 ·subst hnil
  have hl : l0 = [] := by
   rcases Nat.eq_zero_or_pos l0.length with h0 | h0
   ·exact List.eq_nil_of_length_eq_zero h0
   ·obtain ⟨ad, h_, _⟩ := hr0.2.2 h0
    cases h_
  subst hl
  obtain rfl : r = [] := by
   have h2 : slices_Clone_byte_byte.f [] = some [] := by rfl
   exact (Option.some.inj (h2.symm.trans h)).symm
  have HC := Aside0.mk hc0
  clear hc0 h hr0
  go_enter Try.func76, Try.ntmps76
  go_wp2
  go_ret
  exact ⟨_, rfl, Kd.R_nil _ _ _ _ _, Below.refl _ _⟩
 have hsome : A0.isNone = false := by
  cases A0 with
  | none => exact absurd rfl hnil
  | some _ => rfl
 clear hnil
 have HR0 := Aside0.mk hr0
 have HC0 := Aside0.mk hc0
 clear hr0 hc0
 have HB := Aside0.mk (Below.refl w.heap.size w)
 have H : ((some (([] : List Int) : List Int)).bind fun y309 => (if y309.length + l0.length < 140737488355328 then (some (y309 ++ l0)) else (none))) = some r := h
 clear h
 obtain ⟨y309, hy309⟩ : ∃ y_ : List Int, y_ = (([] : List Int)) := ⟨_, rfl⟩
 replace H : (if y309.length + l0.length < 140737488355328 then (some (y309 ++ l0)) else (none)) = some r := by first | (rw [hy309]; with_reducible exact H) | (have H2_ := (Option.bind_some _ _).symm.trans H; rw [hy309]; with_reducible exact H2_) | (have H2_ := (Option.bind_some _ _).symm.trans H; with_reducible exact H2_) | with_reducible exact H | (rw [hy309]; exact H) | exact H
 have Ny309 := Aside0.mk hy309
 clear hy309
 by_cases c2 : y309.length + l0.length < 140737488355328
 ·rw [if_pos c2] at H
  have LMc2 := Aside0.mk c2
  clear c2
  obtain ⟨y312, hy312⟩ : ∃ y_ : List Int, y_ = (y309 ++ l0) := ⟨_, rfl⟩
  replace H : (some y312) = some r := by first | (rw [hy312]; with_reducible exact H) | (have H2_ := (Option.bind_some _ _).symm.trans H; rw [hy312]; with_reducible exact H2_) | (have H2_ := (Option.bind_some _ _).symm.trans H; with_reducible exact H2_) | with_reducible exact H | (rw [hy312]; exact H) | exact H
  have Ny312 := Aside0.mk hy312
  clear hy312
  obtain rfl := Option.some.inj H
  go_enter Try.func76, Try.ntmps76
  go_wp2_with (first | ((with_reducible refine gate_dst (N := 5) rfl ?_); refine Kd.R_lit (Kd.int .u8) _ 5 ?hg (N := 5) ?hd (xs := ([] : List Int)) (inner := []) (ok := fun _ => True) (okp := fun _ => True) ?hr ?hp (fun _ hk => hk) trivial (Below.refl _ _) (Nat.le_refl _) (by simp) ?_; (case hd => rfl); (case hg => rfl); (case hr => first | (go_simp; done) | (go_simp; rfl)); (case hp => exact (Reps.none _ _)); intro v310 w3 ho4 hb hg_ hnew_; clear hg_ hnew_; (first | rw [← Ny309.out] at ho4 | (simp only [Int.reduceToNat] at ho4; rw [← Ny309.out] at ho4)); have n0_ := Aside0.mk (Kd.R_lower ho4 (below_size kz6_1)); have n1_ := Aside0.mk (below_step kz6_1 hb); clear HB; have HO311 := n0_; have HB := n1_; clear n0_ n1_; clear hb ho4) | ((with_reducible refine gate_builtin (b := .append) (xs := #[.tmp 5, .tmp 6]) rfl ?_); at_builtin; refine Kd.R_append_rows (Kd.int .u8) (w0 := w) w.heap.size rfl (.tmp 5) (.tmp 6) 50 5 (.int .u8 0) 1 rfl Try.underlying50 info5 rfl (by decide) (by omega) v310 y309 l0 _ _ _ (fun _ => True) (fun _ => False) rfl rfl ?aO ?aR (fun _ _ h => h) (fun _ h => h.elim) ?aF ?aB ?aS ?aL ?_; (case aR => repeat (first | exact (Kd.C_below HR0.out HB.out) | (with_reducible refine Kd.C_alloc ?_ _) | (with_reducible refine Kd.C_drewN ?_ _) | (with_reducible refine Kd.C_drew ?_))); (case aB => exact kz6_1); (case aF => exact (fun _ _ => trivial)); (case aO => exact (by (with_reducible repeat (first | apply Kd.R_alloc | apply Kd.R_drewN | apply Kd.R_drew)); exact HO311.out)); (case aS => exact (below_size kz6_1)); (case aL => have := LMc2.out; omega); intro v313 w5 ho hb hg hat; rw [← Ny312.out] at ho; have n0_ := Aside0.mk (hb); have n1_ := Aside0.mk (ho); clear HB; clear HO311; have HB := n0_; have HO314 := n1_; clear n0_ n1_; clear ho hb hg hat))
  go_ret
  exact ⟨_, by first | rfl | (simp [errW_none, errW_some] <;> rfl) | (simp [*, errW_none, errW_some] <;> rfl), by (with_reducible repeat (first | apply Kd.R_alloc | apply Kd.R_drewN | apply Kd.R_drew)); exact HO314.out, by repeat (first | (with_reducible first | exact HB.out | apply below_alloc | apply pw_below_drewN | apply below_drew1) | exact HB.out)⟩
 ·rw [if_neg c2] at H
  exact absurd H (by simp)

/-! ### seal_Open: function 59 -/
def seal_Open.j0 : Nat → List Int → Int → Bool → Option (List Int × Int × Int)
 | 0, _, _, _ => none
 | k + 1, x0, x5, x27 => if x27 = true then (some (([] : List Int), 0, 9)) else (if (x0.length : Int) < (wrap64 ((wrap64 (4 + x5)) + 2)) then (some (([] : List Int), 0, 5)) else (if 0 ≤ (wrap64 (4 + x5)) then (if (wrap64 (4 + x5)) ≤ (x0.length : Int) then ((seal_Sum.f k (x0.take ((wrap64 (4 + x5)) : Int).toNat)).bind fun t330 => ((seal_of.f (x0.drop ((wrap64 (4 + x5)) : Int).toNat)).bind fun t335 => (if t330 = t335 then (if 4 ≤ (wrap64 (4 + x5)) then ((slices_Clone_byte_byte.f ((x0.take ((wrap64 (4 + x5)) : Int).toNat).drop 4)).bind fun t340 => (some (t340, wrap64 ((wrap64 (4 + x5)) + 2), 0))) else (none)) else (some (([] : List Int), 0, 9))))) else (none)) else (none)))
def seal_Open.f (k : Nat) (l0 : List Int) : Option (List Int × Int × Int) := if (l0.length : Int) < 4 then (some (([] : List Int), 0, 5)) else ((seal_of.f l0).bind fun t315 => (if (wrap64 (t315)) = 0 then (seal_Open.j0 k l0 (wrap64 (t315)) true) else (if (wrap64 (t315)) > 14000 then (seal_Open.j0 k l0 (wrap64 (t315)) true) else (if 2 ≤ (l0.length : Int) then ((seal_Sum.f k (l0.take 2)).bind fun t320 => ((seal_of.f (l0.drop 2)).bind fun t325 => (seal_Open.j0 k l0 (wrap64 (t315)) (t320 != t325)))) else (none)))))
theorem seal_Open.mono_l : ∀ k, (∀ y0 y1 y2, LeO (seal_Open.j0 k y0 y1 y2) (seal_Open.j0 (k + 1) y0 y1 y2))
 | 0 => fun _ _ _ r h => by simp [seal_Open.j0] at h
 | k + 1 => by
  have ih0 := seal_Open.mono_l k
  ·intro y0 y1 y2
   unfold seal_Open.j0
   repeat' first
   | (with_reducible exact ih0 _ _ _)
   | (with_reducible exact seal_Sum.mono _ _)
   | (with_reducible exact LeO.refl _)
   | (with_reducible exact LeO.none _)
   | (with_reducible refine LeO.ite ?_ ?_)
   | (with_reducible refine LeO.bind ?_ (fun _ => ?_))
   | exact ih0 _ _ _
   | exact seal_Sum.mono _ _
   | exact LeO.none _
   | refine LeO.ite ?_ ?_
   | refine LeO.bind ?_ (fun _ => ?_)
theorem seal_Open.mono : ∀ a0 k, LeO (seal_Open.f k a0) (seal_Open.f (k + 1) a0) := by
 intro a0 k
 have ih0 := seal_Open.mono_l k
 unfold seal_Open.f
 repeat' first
   | (with_reducible exact ih0 _ _ _)
   | (with_reducible exact seal_Sum.mono _ _)
   | (with_reducible exact LeO.refl _)
   | (with_reducible exact LeO.none _)
   | (with_reducible refine LeO.ite ?_ ?_)
   | (with_reducible refine LeO.bind ?_ (fun _ => ?_))
   | exact ih0 _ _ _
   | exact seal_Sum.mono _ _
   | exact LeO.none _
   | refine LeO.ite ?_ ?_
   | refine LeO.bind ?_ (fun _ => ?_)
set_option maxHeartbeats 8000000 in
set_option maxRecDepth 100000 in
theorem seal_Open.calls (k : Nat) (A0 : Option Addr) (c0 : Nat) (l0 : List Int) (r1 : List Int) (r2 : Int) (r3 : Int) (w : World) (hr0 : Kd.C (Kd.int .u8) w A0 l0.length l0) (hc0 : l0.length ≤ c0) (h : seal_Open.f k l0 = some (r1, r2, r3)) :
  Calls Try.prog 59 #[.slice A0 l0.length c0] w fun e w' => ∃ v0_ : Value, e = .returned (.tuple #[v0_, .int .i64 r2, .int .i64 r3]) ∧ Kd.R (Kd.int .u8) 5 w' w.heap.size (fun _ => True) v0_ r1 ∧ Below w.heap.size w w' := by
 have HR0 := Aside0.mk hr0
 have HC0 := Aside0.mk hc0
 clear hr0 hc0
 have HB := Aside0.mk (Below.refl w.heap.size w)
 have H : (if (l0.length : Int) < 4 then (some (([] : List Int), 0, 5)) else ((seal_of.f l0).bind fun t315 => (if (wrap64 (t315)) = 0 then (seal_Open.j0 k l0 (wrap64 (t315)) true) else (if (wrap64 (t315)) > 14000 then (seal_Open.j0 k l0 (wrap64 (t315)) true) else (if 2 ≤ (l0.length : Int) then ((seal_Sum.f k (l0.take 2)).bind fun t320 => ((seal_of.f (l0.drop 2)).bind fun t325 => (seal_Open.j0 k l0 (wrap64 (t315)) (t320 != t325)))) else (none)))))) = some (r1, r2, r3) := h
 clear h
 by_cases c2 : (l0.length : Int) < 4
 ·rw [if_pos c2] at H
  have c2b0 : decide ((l0.length : Int) < 4) = true := decide_eq_true c2
  have c2b1 : decide (l0.length < 4) = true := decide_eq_true (by omega)
  clear c2
  simp only [Option.some.injEq, Prod.mk.injEq] at H
  obtain ⟨rfl, rfl, rfl⟩ := H
  go_enter Try.func59, Try.ntmps59
  go_wp2
  repeat (go_quiet (fail); try go_wp2)
  go_ret3
  exact ⟨_, by first | rfl | (simp [errW_none, errW_some] <;> rfl) | (simp [*, errW_none, errW_some] <;> rfl), by first | exact Kd.R_nil _ _ _ _ _ | exact Kd.N_nil _ _ _ _ _ | exact Kd.V_nil _ _ _ _ _ | exact Kd.Q_nil _ _ _ _ _ | exact Kd.S_nil _ _ _ _ _, by repeat (first | (with_reducible first | exact HB.out | apply below_alloc | apply pw_below_drewN | apply below_drew1) | exact HB.out)⟩
 ·rw [if_neg c2] at H
  have c2b0 : decide ((l0.length : Int) < 4) = false := decide_eq_false c2
  have c2b1 : decide (l0.length < 4) = false := decide_eq_false (by omega)
  clear c2
  replace H := Option.bind_eq_some_iff.mp H
  obtain ⟨t315, A30, H⟩ := H
  replace H : (if (wrap64 (t315)) = 0 then (seal_Open.j0 k l0 (wrap64 (t315)) true) else (if (wrap64 (t315)) > 14000 then (seal_Open.j0 k l0 (wrap64 (t315)) true) else (if 2 ≤ (l0.length : Int) then ((seal_Sum.f k (l0.take 2)).bind fun t320 => ((seal_of.f (l0.drop 2)).bind fun t325 => (seal_Open.j0 k l0 (wrap64 (t315)) (t320 != t325)))) else (none)))) = some (r1, r2, r3) := H
  have A3 := Aside0.mk A30
  clear A30
  have HC4 := Aside0.mk H
  clear H
  go_enter Try.func59, Try.ntmps59
  go_upto_region 4 with (first | (go_at_call 75; (with_reducible refine (seal_of.calls _ _ l0 t315 _ ?side1 ?side2 A3.out).mono ?_); (case side1 => repeat (first | exact HR0.out | (with_reducible refine Kd.C_alloc ?_ _) | (with_reducible refine Kd.C_drewN ?_ _) | (with_reducible refine Kd.C_drew ?_))); (case side2 => exact HC0.out); rintro e w' ⟨rfl, ⟨nd, rfl⟩⟩; (try first | exact ⟨rfl, _, World.drewN_drewN _ _ _⟩ | exact ⟨rfl, _, Eq.trans (World.drewN_drewN _ _ _) (congrArg (World.drewN _) (Nat.add_assoc _ _ _))⟩)))
  repeat (go_quiet (first | (go_at_call 75; (with_reducible refine (seal_of.calls _ _ l0 t315 _ ?side1 ?side2 A3.out).mono ?_); (case side1 => repeat (first | exact HR0.out | (with_reducible refine Kd.C_alloc ?_ _) | (with_reducible refine Kd.C_drewN ?_ _) | (with_reducible refine Kd.C_drew ?_))); (case side2 => exact HC0.out); rintro e w' ⟨rfl, ⟨nd, rfl⟩⟩; (try first | exact ⟨rfl, _, World.drewN_drewN _ _ _⟩ | exact ⟨rfl, _, Eq.trans (World.drewN_drewN _ _ _) (congrArg (World.drewN _) (Nat.add_assoc _ _ _))⟩))); go_upto_region 4 with (first | (go_at_call 75; (with_reducible refine (seal_of.calls _ _ l0 t315 _ ?side1 ?side2 A3.out).mono ?_); (case side1 => repeat (first | exact HR0.out | (with_reducible refine Kd.C_alloc ?_ _) | (with_reducible refine Kd.C_drewN ?_ _) | (with_reducible refine Kd.C_drew ?_))); (case side2 => exact HC0.out); rintro e w' ⟨rfl, ⟨nd, rfl⟩⟩; (try first | exact ⟨rfl, _, World.drewN_drewN _ _ _⟩ | exact ⟨rfl, _, Eq.trans (World.drewN_drewN _ _ _) (congrArg (World.drewN _) (Nat.add_assoc _ _ _))⟩))))
  (try simp only [Act.put, sA_, sB_, sC_])
  go_cut [27] (fun v27 wc => ∃ (kq : Nat) (x27_3 : Bool), v27 = .bool x27_3 ∧ Aside0 (seal_Open.j0 kq l0 (wrap64 (t315)) x27_3 = some (r1, r2, r3)) ∧ Aside0 (kq ≤ k) ∧ Aside0 (Below w.heap.size w wc))
  case first =>
   have H := HC4.out
   clear HC4
   by_cases c5 : (wrap64 (t315)) = 0
   ·rw [if_pos c5] at H
    have c5b0 : ((wrap64 (t315)) == 0) = true := beq_iff_eq.mpr c5
    have c5b1 : ((wrap64 (t315)) != 0) = false := bne_eq_false_iff_eq.mpr c5
    clear c5
    (first | rw [c5b0] | (simp only [i64_w, i32_w]; rw [c5b0]) | skip)
    have H' := Aside0.mk H
    clear H
    go_wp2
    repeat (go_quiet (fail); try go_wp2)
    go_meet
    case rel => exact ⟨_, (true), kz6_7, H', ⟨by first | omega | exact Nat.le_refl _⟩, ⟨by repeat (first | (with_reducible first | exact HB.out | apply below_alloc | apply pw_below_drewN | apply below_drew1) | exact HB.out)⟩⟩
   ·rw [if_neg c5] at H
    have c5b0 : ((wrap64 (t315)) == 0) = false := beq_eq_false_iff_ne.mpr c5
    have c5b1 : ((wrap64 (t315)) != 0) = true := bne_iff_ne.mpr c5
    (first | rw [c5b0] | (simp only [i64_w, i32_w]; rw [c5b0]) | skip)
    by_cases c6 : (wrap64 (t315)) > 14000
    ·rw [if_pos c6] at H
     have c6b0 : decide (14000 < (wrap64 (t315))) = true := decide_eq_true c6
     clear c6
     have H' := Aside0.mk H
     clear H
     go_wp2
     repeat (go_quiet (fail); try go_wp2)
     go_meet
     case rel => exact ⟨_, (true), kz6_7, H', ⟨by first | omega | exact Nat.le_refl _⟩, ⟨by repeat (first | (with_reducible first | exact HB.out | apply below_alloc | apply pw_below_drewN | apply below_drew1) | exact HB.out)⟩⟩
    ·rw [if_neg c6] at H
     have c6b0 : decide (14000 < (wrap64 (t315))) = false := decide_eq_false c6
     clear c6
     by_cases c7 : 2 ≤ (l0.length : Int)
     ·rw [if_pos c7] at H
      have c7b0 := eq_true c7
      have c7b1 : decide (2 ≤ (l0.length : Int)) = true := decide_eq_true c7
      clear c7
      obtain ⟨y316, hy316⟩ : ∃ y_ : List Int, y_ = (l0.take 2) := ⟨_, rfl⟩
      replace H : ((seal_Sum.f k y316).bind fun t320 => ((seal_of.f (l0.drop 2)).bind fun t325 => (seal_Open.j0 k l0 (wrap64 (t315)) (t320 != t325)))) = some (r1, r2, r3) := by first | (rw [hy316]; with_reducible exact H) | (have H2_ := (Option.bind_some _ _).symm.trans H; rw [hy316]; with_reducible exact H2_) | (have H2_ := (Option.bind_some _ _).symm.trans H; with_reducible exact H2_) | with_reducible exact H | (rw [hy316]; exact H) | exact H
      have Ny316 := Aside0.mk hy316
      clear hy316
      replace H := Option.bind_eq_some_iff.mp H
      obtain ⟨t320, A80, H⟩ := H
      replace H : ((seal_of.f (l0.drop 2)).bind fun t325 => (seal_Open.j0 k l0 (wrap64 (t315)) (t320 != t325))) = some (r1, r2, r3) := H
      have A8 := Aside0.mk A80
      clear A80
      have c9b0 := eq_true (of_decide_eq_true kz6_3 : 2 ≤ (l0.length : Int))
      obtain ⟨y321, hy321⟩ : ∃ y_ : List Int, y_ = (l0.drop 2) := ⟨_, rfl⟩
      replace H : ((seal_of.f y321).bind fun t325 => (seal_Open.j0 k l0 (wrap64 (t315)) (t320 != t325))) = some (r1, r2, r3) := by first | (rw [hy321]; with_reducible exact H) | (have H2_ := (Option.bind_some _ _).symm.trans H; rw [hy321]; with_reducible exact H2_) | (have H2_ := (Option.bind_some _ _).symm.trans H; with_reducible exact H2_) | with_reducible exact H | (rw [hy321]; exact H) | exact H
      have Ny321 := Aside0.mk hy321
      clear hy321
      replace H := Option.bind_eq_some_iff.mp H
      obtain ⟨t325, A100, H⟩ := H
      replace H : (seal_Open.j0 k l0 (wrap64 (t315)) (t320 != t325)) = some (r1, r2, r3) := H
      have A10 := Aside0.mk A100
      clear A100
      have H' := Aside0.mk H
      clear H
      have q11 : (2 : Int) ≤ ((l0.length : Int) : Int) := of_decide_eq_true kz6_3
      obtain ⟨i011, hi011, _, hsz11, _⟩ := info_parts info5
      have hroom11 : l0.length ≤ c0 := HC0.out
      have hC11 : Kd.C (Kd.int .u8) _ A0 l0.length l0 := HR0.out
      have hcut11 := cut_to (P := Try.prog) 50 5 .i64 Try.underlying50 hi011 A0 l0.length c0 2 (by omega) q11 hroom11
      have hr11 := Kd.C_take (m := 2) hC11 (by omega)
      have hy11 : y316.length = (2 : Int).toNat := (by rw [Ny316.out, List.length_take]; omega)
      rw [← Ny316.out] at hr11
      rw [← hy11] at hcut11
      have HR319 := Aside0.mk hr11
      have HC319 := Aside0.mk (show y316.length ≤ c0 from by omega)
      clear hr11 hC11 hroom11 hi011 hsz11
      have KY11 := Aside0.mk hy11
      clear hy11
      replace q11 := eq_true q11
      go_wp2_with (first | (go_at_call 70; (with_reducible refine (seal_Sum.calls k _ _ y316 t320 _ ?side1 ?side2 A8.out).mono ?_); (case side1 => repeat (first | exact (Kd.C_below HR319.out HB.out) | (with_reducible refine Kd.C_alloc ?_ _) | (with_reducible refine Kd.C_drewN ?_ _) | (with_reducible refine Kd.C_drew ?_))); (case side2 => exact HC319.out); rintro e w' ⟨rfl, ⟨nd, rfl⟩⟩; (try first | exact ⟨rfl, _, World.drewN_drewN _ _ _⟩ | exact ⟨rfl, _, Eq.trans (World.drewN_drewN _ _ _) (congrArg (World.drewN _) (Nat.add_assoc _ _ _))⟩); have q12 : (2 : Int) ≤ ((l0.length : Int) : Int) := of_decide_eq_true kz6_3; obtain ⟨i012, hi012, _, hsz12, _⟩ := info_parts info5; have hroom12 : l0.length ≤ c0 := HC0.out; have hC12 : Kd.C (Kd.int .u8) _ A0 l0.length l0 := HR0.out; have hcut12 := cut_from (P := Try.prog) 50 5 .i64 Try.underlying50 hi012 1 hsz12 A0 l0.length c0 2 (by omega) q12; have hr12 := Kd.C_drop (m := (2 : Int).toNat) (c := c0) hC12 (by omega) hroom12; obtain ⟨A12, hA12⟩ : ∃ A1, A1 = (if c0 = (2 : Int).toNat then A0 else (A0 : Option Addr).map (·.add ((2 : Int).toNat * 1))) := ⟨_, rfl⟩; obtain ⟨c12, hc12⟩ : ∃ c1, c1 = c0 - (2 : Int).toNat := ⟨_, rfl⟩; have hy12 : y321.length = l0.length - (2 : Int).toNat := (by rw [Ny321.out, List.length_drop] <;> omega); rw [show (l0).drop (2 : Int).toNat = y321 from Ny321.out.symm] at hr12; replace hr12 : Kd.C (Kd.int .u8) _ A12 y321.length y321 := (by rw [hA12]; exact hr12); rw [← hy12, ← hA12, ← hc12] at hcut12; have HR324 := Aside0.mk hr12; have HC324 := Aside0.mk (show y321.length ≤ c12 from by rw [hy12, hc12]; exact Nat.sub_le_sub_right hroom12 _); clear hr12 hC12 hroom12 hi012 hsz12 hc12; have KY12 := Aside0.mk hy12; have KA12 := Aside0.mk hA12; clear hy12 hA12; replace q12 := eq_true q12) | (go_at_call 75; (with_reducible refine (seal_of.calls _ _ y321 t325 _ ?side1 ?side2 A10.out).mono ?_); (case side1 => repeat (first | exact (Kd.C_below HR324.out kz6_1) | (with_reducible refine Kd.C_alloc ?_ _) | (with_reducible refine Kd.C_drewN ?_ _) | (with_reducible refine Kd.C_drew ?_))); (case side2 => exact HC324.out); rintro e w' ⟨rfl, ⟨nd, rfl⟩⟩; (try first | exact ⟨rfl, _, World.drewN_drewN _ _ _⟩ | exact ⟨rfl, _, Eq.trans (World.drewN_drewN _ _ _) (congrArg (World.drewN _) (Nat.add_assoc _ _ _))⟩)))
      repeat (go_quiet (first | (go_at_call 70; (with_reducible refine (seal_Sum.calls k _ _ y316 t320 _ ?side1 ?side2 A8.out).mono ?_); (case side1 => repeat (first | exact (Kd.C_below HR319.out HB.out) | (with_reducible refine Kd.C_alloc ?_ _) | (with_reducible refine Kd.C_drewN ?_ _) | (with_reducible refine Kd.C_drew ?_))); (case side2 => exact HC319.out); rintro e w' ⟨rfl, ⟨nd, rfl⟩⟩; (try first | exact ⟨rfl, _, World.drewN_drewN _ _ _⟩ | exact ⟨rfl, _, Eq.trans (World.drewN_drewN _ _ _) (congrArg (World.drewN _) (Nat.add_assoc _ _ _))⟩); have q12 : (2 : Int) ≤ ((l0.length : Int) : Int) := of_decide_eq_true kz6_3; obtain ⟨i012, hi012, _, hsz12, _⟩ := info_parts info5; have hroom12 : l0.length ≤ c0 := HC0.out; have hC12 : Kd.C (Kd.int .u8) _ A0 l0.length l0 := HR0.out; have hcut12 := cut_from (P := Try.prog) 50 5 .i64 Try.underlying50 hi012 1 hsz12 A0 l0.length c0 2 (by omega) q12; have hr12 := Kd.C_drop (m := (2 : Int).toNat) (c := c0) hC12 (by omega) hroom12; obtain ⟨A12, hA12⟩ : ∃ A1, A1 = (if c0 = (2 : Int).toNat then A0 else (A0 : Option Addr).map (·.add ((2 : Int).toNat * 1))) := ⟨_, rfl⟩; obtain ⟨c12, hc12⟩ : ∃ c1, c1 = c0 - (2 : Int).toNat := ⟨_, rfl⟩; have hy12 : y321.length = l0.length - (2 : Int).toNat := (by rw [Ny321.out, List.length_drop] <;> omega); rw [show (l0).drop (2 : Int).toNat = y321 from Ny321.out.symm] at hr12; replace hr12 : Kd.C (Kd.int .u8) _ A12 y321.length y321 := (by rw [hA12]; exact hr12); rw [← hy12, ← hA12, ← hc12] at hcut12; have HR324 := Aside0.mk hr12; have HC324 := Aside0.mk (show y321.length ≤ c12 from by rw [hy12, hc12]; exact Nat.sub_le_sub_right hroom12 _); clear hr12 hC12 hroom12 hi012 hsz12 hc12; have KY12 := Aside0.mk hy12; have KA12 := Aside0.mk hA12; clear hy12 hA12; replace q12 := eq_true q12) | (go_at_call 75; (with_reducible refine (seal_of.calls _ _ y321 t325 _ ?side1 ?side2 A10.out).mono ?_); (case side1 => repeat (first | exact (Kd.C_below HR324.out kz6_1) | (with_reducible refine Kd.C_alloc ?_ _) | (with_reducible refine Kd.C_drewN ?_ _) | (with_reducible refine Kd.C_drew ?_))); (case side2 => exact HC324.out); rintro e w' ⟨rfl, ⟨nd, rfl⟩⟩; (try first | exact ⟨rfl, _, World.drewN_drewN _ _ _⟩ | exact ⟨rfl, _, Eq.trans (World.drewN_drewN _ _ _) (congrArg (World.drewN _) (Nat.add_assoc _ _ _))⟩))); try go_wp2_with (first | (go_at_call 70; (with_reducible refine (seal_Sum.calls k _ _ y316 t320 _ ?side1 ?side2 A8.out).mono ?_); (case side1 => repeat (first | exact (Kd.C_below HR319.out HB.out) | (with_reducible refine Kd.C_alloc ?_ _) | (with_reducible refine Kd.C_drewN ?_ _) | (with_reducible refine Kd.C_drew ?_))); (case side2 => exact HC319.out); rintro e w' ⟨rfl, ⟨nd, rfl⟩⟩; (try first | exact ⟨rfl, _, World.drewN_drewN _ _ _⟩ | exact ⟨rfl, _, Eq.trans (World.drewN_drewN _ _ _) (congrArg (World.drewN _) (Nat.add_assoc _ _ _))⟩); have q12 : (2 : Int) ≤ ((l0.length : Int) : Int) := of_decide_eq_true kz6_3; obtain ⟨i012, hi012, _, hsz12, _⟩ := info_parts info5; have hroom12 : l0.length ≤ c0 := HC0.out; have hC12 : Kd.C (Kd.int .u8) _ A0 l0.length l0 := HR0.out; have hcut12 := cut_from (P := Try.prog) 50 5 .i64 Try.underlying50 hi012 1 hsz12 A0 l0.length c0 2 (by omega) q12; have hr12 := Kd.C_drop (m := (2 : Int).toNat) (c := c0) hC12 (by omega) hroom12; obtain ⟨A12, hA12⟩ : ∃ A1, A1 = (if c0 = (2 : Int).toNat then A0 else (A0 : Option Addr).map (·.add ((2 : Int).toNat * 1))) := ⟨_, rfl⟩; obtain ⟨c12, hc12⟩ : ∃ c1, c1 = c0 - (2 : Int).toNat := ⟨_, rfl⟩; have hy12 : y321.length = l0.length - (2 : Int).toNat := (by rw [Ny321.out, List.length_drop] <;> omega); rw [show (l0).drop (2 : Int).toNat = y321 from Ny321.out.symm] at hr12; replace hr12 : Kd.C (Kd.int .u8) _ A12 y321.length y321 := (by rw [hA12]; exact hr12); rw [← hy12, ← hA12, ← hc12] at hcut12; have HR324 := Aside0.mk hr12; have HC324 := Aside0.mk (show y321.length ≤ c12 from by rw [hy12, hc12]; exact Nat.sub_le_sub_right hroom12 _); clear hr12 hC12 hroom12 hi012 hsz12 hc12; have KY12 := Aside0.mk hy12; have KA12 := Aside0.mk hA12; clear hy12 hA12; replace q12 := eq_true q12) | (go_at_call 75; (with_reducible refine (seal_of.calls _ _ y321 t325 _ ?side1 ?side2 A10.out).mono ?_); (case side1 => repeat (first | exact (Kd.C_below HR324.out kz6_1) | (with_reducible refine Kd.C_alloc ?_ _) | (with_reducible refine Kd.C_drewN ?_ _) | (with_reducible refine Kd.C_drew ?_))); (case side2 => exact HC324.out); rintro e w' ⟨rfl, ⟨nd, rfl⟩⟩; (try first | exact ⟨rfl, _, World.drewN_drewN _ _ _⟩ | exact ⟨rfl, _, Eq.trans (World.drewN_drewN _ _ _) (congrArg (World.drewN _) (Nat.add_assoc _ _ _))⟩))))
      go_meet
      case rel => exact ⟨_, ((t320 != t325)), kz6_7, H', ⟨by first | omega | exact Nat.le_refl _⟩, ⟨by repeat (first | (with_reducible first | exact HB.out | apply below_alloc | apply pw_below_drewN | apply below_drew1) | exact HB.out)⟩⟩
     ·rw [if_neg c7] at H
      exact absurd H (by simp)
  case rest =>
   clear HC4
   try clear c1
   try clear q1
   try clear c2
   try clear c2b0
   try clear c2b1
   try clear p2
   try clear c5
   try clear c5b0
   try clear c5b1
   try clear c6
   try clear c6b0
   try clear p6
   try clear c7
   try clear c7b0
   try clear c7b1
   try clear c9
   try clear c9b0
   try clear q11
   try clear c12
   try clear q12
   try clear q11
   try clear q12
   obtain ⟨kq, x27_3, rfl, HA, HJ3, HB⟩ := hcut
   cases kq with
   | zero => exact absurd HA.out (by simp [seal_Open.j0])
   | succ kj3 =>
    have H := HA.out
    clear HA
    simp only [seal_Open.j0] at H
    by_cases c13 : x27_3 = true
    ·subst c13
     have H1 : (some (([] : List Int), 0, 9)) = some (r1, r2, r3) := by rw [if_pos rfl] at H; exact H
     clear H
     have H := H1
     clear H1
     simp only [Option.some.injEq, Prod.mk.injEq] at H
     obtain ⟨rfl, rfl, rfl⟩ := H
     go_wp2
     repeat (go_quiet (fail); try go_wp2)
     go_ret3
     exact ⟨_, by first | rfl | (simp [errW_none, errW_some] <;> rfl) | (simp [*, errW_none, errW_some] <;> rfl), by first | exact Kd.R_nil _ _ _ _ _ | exact Kd.N_nil _ _ _ _ _ | exact Kd.V_nil _ _ _ _ _ | exact Kd.Q_nil _ _ _ _ _ | exact Kd.S_nil _ _ _ _ _, by repeat (first | (with_reducible first | exact HB.out | apply below_alloc | apply pw_below_drewN | apply below_drew1) | exact HB.out)⟩
    ·replace c13 := Bool.eq_false_iff.mpr c13
     subst c13
     have H1 : (if (l0.length : Int) < (wrap64 ((wrap64 (4 + (wrap64 (t315)))) + 2)) then (some (([] : List Int), 0, 5)) else (if 0 ≤ (wrap64 (4 + (wrap64 (t315)))) then (if (wrap64 (4 + (wrap64 (t315)))) ≤ (l0.length : Int) then ((seal_Sum.f kj3 (l0.take ((wrap64 (4 + (wrap64 (t315)))) : Int).toNat)).bind fun t330 => ((seal_of.f (l0.drop ((wrap64 (4 + (wrap64 (t315)))) : Int).toNat)).bind fun t335 => (if t330 = t335 then (if 4 ≤ (wrap64 (4 + (wrap64 (t315)))) then ((slices_Clone_byte_byte.f ((l0.take ((wrap64 (4 + (wrap64 (t315)))) : Int).toNat).drop 4)).bind fun t340 => (some (t340, wrap64 ((wrap64 (4 + (wrap64 (t315)))) + 2), 0))) else (none)) else (some (([] : List Int), 0, 9))))) else (none)) else (none))) = some (r1, r2, r3) := by rw [if_neg (show ¬ (false = true) by decide)] at H; exact H
     clear H
     have H := H1
     clear H1
     by_cases c14 : (l0.length : Int) < (wrap64 ((wrap64 (4 + (wrap64 (t315)))) + 2))
     ·rw [if_pos c14] at H
      have c14b0 : decide ((l0.length : Int) < (wrap64 ((wrap64 (4 + (wrap64 (t315)))) + 2))) = true := decide_eq_true c14
      clear c14
      simp only [Option.some.injEq, Prod.mk.injEq] at H
      obtain ⟨rfl, rfl, rfl⟩ := H
      go_wp2
      repeat (go_quiet (fail); try go_wp2)
      go_ret3
      exact ⟨_, by first | rfl | (simp [errW_none, errW_some] <;> rfl) | (simp [*, errW_none, errW_some] <;> rfl), by first | exact Kd.R_nil _ _ _ _ _ | exact Kd.N_nil _ _ _ _ _ | exact Kd.V_nil _ _ _ _ _ | exact Kd.Q_nil _ _ _ _ _ | exact Kd.S_nil _ _ _ _ _, by repeat (first | (with_reducible first | exact HB.out | apply below_alloc | apply pw_below_drewN | apply below_drew1) | exact HB.out)⟩
     ·rw [if_neg c14] at H
      have c14b0 : decide ((l0.length : Int) < (wrap64 ((wrap64 (4 + (wrap64 (t315)))) + 2))) = false := decide_eq_false c14
      clear c14
      obtain ⟨ji15, hji15⟩ : ∃ j_ : Int, (wrap64 (4 + (wrap64 (t315)))) = j_ := ⟨_, rfl⟩
      replace H : (if 0 ≤ (ji15) then (if (ji15) ≤ (l0.length : Int) then ((seal_Sum.f kj3 (l0.take ((ji15) : Int).toNat)).bind fun t330 => ((seal_of.f (l0.drop ((ji15) : Int).toNat)).bind fun t335 => (if t330 = t335 then (if 4 ≤ (ji15) then ((slices_Clone_byte_byte.f ((l0.take ((ji15) : Int).toNat).drop 4)).bind fun t340 => (some (t340, wrap64 ((ji15) + 2), 0))) else (none)) else (some (([] : List Int), 0, 9))))) else (none)) else (none)) = some (r1, r2, r3) := by first | (rw [hji15] at H; exact H) | (simp only [hji15] at H ⊢; exact H)
      (try rw [hji15] at c14b0)
      have hji15w : (IntKind.i64.wrap (4 + (wrap64 (t315)))) = ji15 := (i64_w _).trans hji15
      by_cases c16 : 0 ≤ (ji15)
      ·rw [if_pos c16] at H
       have c16b0 := eq_true c16
       have c16b1 : decide (0 ≤ (ji15)) = true := decide_eq_true c16
       clear c16
       by_cases c17 : (ji15) ≤ (l0.length : Int)
       ·rw [if_pos c17] at H
        have c17b0 := eq_true c17
        have c17b1 : decide ((ji15) ≤ (l0.length : Int)) = true := decide_eq_true c17
        clear c17
        obtain ⟨y326, hy326⟩ : ∃ y_ : List Int, y_ = (l0.take ((ji15) : Int).toNat) := ⟨_, rfl⟩
        replace H : ((seal_Sum.f kj3 y326).bind fun t330 => ((seal_of.f (l0.drop ((ji15) : Int).toNat)).bind fun t335 => (if t330 = t335 then (if 4 ≤ (ji15) then ((slices_Clone_byte_byte.f ((l0.take ((ji15) : Int).toNat).drop 4)).bind fun t340 => (some (t340, wrap64 ((ji15) + 2), 0))) else (none)) else (some (([] : List Int), 0, 9))))) = some (r1, r2, r3) := by first | (rw [hy326]; with_reducible exact H) | (have H2_ := (Option.bind_some _ _).symm.trans H; rw [hy326]; with_reducible exact H2_) | (have H2_ := (Option.bind_some _ _).symm.trans H; with_reducible exact H2_) | with_reducible exact H | (rw [hy326]; exact H) | exact H
        have Ny326 := Aside0.mk hy326
        clear hy326
        replace H := Option.bind_eq_some_iff.mp H
        obtain ⟨t330, A180, H⟩ := H
        replace H : ((seal_of.f (l0.drop ((ji15) : Int).toNat)).bind fun t335 => (if t330 = t335 then (if 4 ≤ (ji15) then ((slices_Clone_byte_byte.f ((l0.take ((ji15) : Int).toNat).drop 4)).bind fun t340 => (some (t340, wrap64 ((ji15) + 2), 0))) else (none)) else (some (([] : List Int), 0, 9)))) = some (r1, r2, r3) := H
        have A18 := Aside0.mk A180
        clear A180
        have c19b0 := eq_true (of_decide_eq_true kz6_3 : 0 ≤ (ji15))
        have c20b0 := eq_true (of_decide_eq_true kz6_3 : (ji15) ≤ (l0.length : Int))
        obtain ⟨y331, hy331⟩ : ∃ y_ : List Int, y_ = (l0.drop ((ji15) : Int).toNat) := ⟨_, rfl⟩
        replace H : ((seal_of.f y331).bind fun t335 => (if t330 = t335 then (if 4 ≤ (ji15) then ((slices_Clone_byte_byte.f ((l0.take ((ji15) : Int).toNat).drop 4)).bind fun t340 => (some (t340, wrap64 ((ji15) + 2), 0))) else (none)) else (some (([] : List Int), 0, 9)))) = some (r1, r2, r3) := by first | (rw [hy331]; with_reducible exact H) | (have H2_ := (Option.bind_some _ _).symm.trans H; rw [hy331]; with_reducible exact H2_) | (have H2_ := (Option.bind_some _ _).symm.trans H; with_reducible exact H2_) | with_reducible exact H | (rw [hy331]; exact H) | exact H
        have Ny331 := Aside0.mk hy331
        clear hy331
        replace H := Option.bind_eq_some_iff.mp H
        obtain ⟨t335, A210, H⟩ := H
        replace H : (if t330 = t335 then (if 4 ≤ (ji15) then ((slices_Clone_byte_byte.f ((l0.take ((ji15) : Int).toNat).drop 4)).bind fun t340 => (some (t340, wrap64 ((ji15) + 2), 0))) else (none)) else (some (([] : List Int), 0, 9))) = some (r1, r2, r3) := H
        have A21 := Aside0.mk A210
        clear A210
        by_cases c22 : t330 = t335
        ·rw [if_pos c22] at H
         have c22b0 : (t330 == t335) = true := beq_iff_eq.mpr c22
         have c22b1 : (t330 != t335) = false := bne_eq_false_iff_eq.mpr c22
         clear c22
         by_cases c23 : 4 ≤ (ji15)
         ·rw [if_pos c23] at H
          have c23b0 := eq_true c23
          have c23b1 : decide (4 ≤ (ji15)) = true := decide_eq_true c23
          clear c23
          have c24b0 := eq_true (of_decide_eq_true kz6_3 : (ji15) ≤ (l0.length : Int))
          obtain ⟨y336, hy336⟩ : ∃ y_ : List Int, y_ = ((l0.take ((ji15) : Int).toNat).drop 4) := ⟨_, rfl⟩
          replace H : ((slices_Clone_byte_byte.f y336).bind fun t340 => (some (t340, wrap64 ((ji15) + 2), 0))) = some (r1, r2, r3) := by first | (rw [hy336]; with_reducible exact H) | (have H2_ := (Option.bind_some _ _).symm.trans H; rw [hy336]; with_reducible exact H2_) | (have H2_ := (Option.bind_some _ _).symm.trans H; with_reducible exact H2_) | with_reducible exact H | (rw [hy336]; exact H) | exact H
          have Ny336 := Aside0.mk hy336
          clear hy336
          replace H := Option.bind_eq_some_iff.mp H
          obtain ⟨t340, A250, H⟩ := H
          replace H : (some (t340, wrap64 ((ji15) + 2), 0)) = some (r1, r2, r3) := H
          have A25 := Aside0.mk A250
          clear A250
          simp only [Option.some.injEq, Prod.mk.injEq] at H
          obtain ⟨rfl, rfl, rfl⟩ := H
          have q26 : ((ji15) : Int) ≤ ((l0.length : Int) : Int) := of_decide_eq_true kz6_3
          obtain ⟨i026, hi026, _, hsz26, _⟩ := info_parts info5
          have hroom26 : l0.length ≤ c0 := HC0.out
          have hC26 : Kd.C (Kd.int .u8) _ A0 l0.length l0 := HR0.out
          have hcut26 := cut_to (P := Try.prog) 50 5 .i64 Try.underlying50 hi026 A0 l0.length c0 (ji15) (of_decide_eq_true kz6_3) q26 hroom26
          have hr26 := Kd.C_take (m := ((ji15) : Int).toNat) hC26 (by omega)
          have hy26 : y326.length = ((ji15) : Int).toNat := (by rw [Ny326.out, List.length_take]; omega)
          rw [← Ny326.out] at hr26
          rw [← hy26] at hcut26
          have HR329 := Aside0.mk hr26
          have HC329 := Aside0.mk (show y326.length ≤ c0 from by omega)
          clear hr26 hC26 hroom26 hi026 hsz26
          have KY26 := Aside0.mk hy26
          clear hy26
          replace q26 := eq_true q26
          go_wp2_with (first | (go_at_call 70; (with_reducible refine (seal_Sum.calls kj3 _ _ y326 t330 _ ?side1 ?side2 A18.out).mono ?_); (case side1 => repeat (first | exact (Kd.C_below HR329.out HB.out) | (with_reducible refine Kd.C_alloc ?_ _) | (with_reducible refine Kd.C_drewN ?_ _) | (with_reducible refine Kd.C_drew ?_))); (case side2 => exact HC329.out); rintro e w' ⟨rfl, ⟨nd, rfl⟩⟩; (try first | exact ⟨rfl, _, World.drewN_drewN _ _ _⟩ | exact ⟨rfl, _, Eq.trans (World.drewN_drewN _ _ _) (congrArg (World.drewN _) (Nat.add_assoc _ _ _))⟩); have q27 : ((ji15) : Int) ≤ ((l0.length : Int) : Int) := of_decide_eq_true kz6_3; obtain ⟨i027, hi027, _, hsz27, _⟩ := info_parts info5; have hroom27 : l0.length ≤ c0 := HC0.out; have hC27 : Kd.C (Kd.int .u8) _ A0 l0.length l0 := HR0.out; have q027 : (0 : Int) ≤ ((ji15) : Int) := of_decide_eq_true kz6_3; have hcut27 := cut_from (P := Try.prog) 50 5 .i64 Try.underlying50 hi027 1 hsz27 A0 l0.length c0 (ji15) q027 q27; have hr27 := Kd.C_drop (m := ((ji15) : Int).toNat) (c := c0) hC27 (by omega) hroom27; obtain ⟨A27, hA27⟩ : ∃ A1, A1 = (if c0 = ((ji15) : Int).toNat then A0 else (A0 : Option Addr).map (·.add (((ji15) : Int).toNat * 1))) := ⟨_, rfl⟩; obtain ⟨c27, hc27⟩ : ∃ c1, c1 = c0 - ((ji15) : Int).toNat := ⟨_, rfl⟩; have hy27 : y331.length = l0.length - ((ji15) : Int).toNat := kz6_9; rw [show (l0).drop ((ji15) : Int).toNat = y331 from Ny331.out.symm] at hr27; replace hr27 : Kd.C (Kd.int .u8) _ A27 y331.length y331 := (by rw [hA27]; exact hr27); rw [← hy27, ← hA27, ← hc27] at hcut27; have HR334 := Aside0.mk hr27; have HC334 := Aside0.mk (show y331.length ≤ c27 from by rw [hy27, hc27]; exact Nat.sub_le_sub_right hroom27 _); clear hr27 hC27 hroom27 hi027 hsz27 hc27; have KY27 := Aside0.mk hy27; have KA27 := Aside0.mk hA27; clear hy27 hA27; replace q27 := eq_true q27) | (go_at_call 75; (with_reducible refine (seal_of.calls _ _ y331 t335 _ ?side1 ?side2 A21.out).mono ?_); (case side1 => repeat (first | exact (Kd.C_below HR334.out kz6_1) | (with_reducible refine Kd.C_alloc ?_ _) | (with_reducible refine Kd.C_drewN ?_ _) | (with_reducible refine Kd.C_drew ?_))); (case side2 => exact HC334.out); rintro e w' ⟨rfl, ⟨nd, rfl⟩⟩; (try first | exact ⟨rfl, _, World.drewN_drewN _ _ _⟩ | exact ⟨rfl, _, Eq.trans (World.drewN_drewN _ _ _) (congrArg (World.drewN _) (Nat.add_assoc _ _ _))⟩); have q28 : ((ji15) : Int) ≤ ((l0.length : Int) : Int) := of_decide_eq_true kz6_3; obtain ⟨i028, hi028, _, hsz28, _⟩ := info_parts info5; have hroom28 : l0.length ≤ c0 := HC0.out; have hC28 : Kd.C (Kd.int .u8) _ A0 l0.length l0 := HR0.out; have ql28 : (4 : Int) ≤ ((ji15) : Int) := of_decide_eq_true kz6_3; have hcut28 := cut_mid (P := Try.prog) 50 5 .i64 .i64 Try.underlying50 hi028 1 hsz28 A0 l0.length c0 4 (ji15) (by omega) ql28 q28 hroom28; have hr28 := Kd.C_mid (lo := (4 : Int).toNat) (hi := ((ji15) : Int).toNat) (c := c0) hC28 (by omega) (by omega) hroom28; obtain ⟨A28, hA28⟩ : ∃ A1, A1 = (if c0 = (4 : Int).toNat then A0 else (A0 : Option Addr).map (·.add ((4 : Int).toNat * 1))) := ⟨_, rfl⟩; obtain ⟨c28, hc28⟩ : ∃ c1, c1 = c0 - (4 : Int).toNat := ⟨_, rfl⟩; have hy28 : y336.length = ((ji15) : Int).toNat - (4 : Int).toNat := (by rw [Ny336.out, List.length_drop, List.length_take] <;> omega); rw [show ((l0).take ((ji15) : Int).toNat).drop (4 : Int).toNat = y336 from Ny336.out.symm] at hr28; replace hr28 : Kd.C (Kd.int .u8) _ A28 y336.length y336 := (by rw [hA28]; exact hr28); rw [← hy28, ← hA28, ← hc28] at hcut28; have HR339 := Aside0.mk hr28; have HC339 := Aside0.mk (show y336.length ≤ c28 from by rw [hy28, hc28]; exact Nat.sub_le_sub_right (Nat.le_trans (by omega) hroom28) _); clear hr28 hC28 hroom28 hi028 hsz28 hc28; have KY28 := Aside0.mk hy28; have KA28 := Aside0.mk hA28; clear hy28 hA28; replace q28 := eq_true q28) | (go_at_call 76; (with_reducible refine (slices_Clone_byte_byte.calls _ _ y336 t340 _ ?side1 ?side2 A25.out).mono ?_); (case side1 => repeat (first | exact (Kd.C_below HR339.out kz6_1) | (with_reducible refine Kd.C_alloc ?_ _) | (with_reducible refine Kd.C_drewN ?_ _) | (with_reducible refine Kd.C_drew ?_))); (case side2 => exact HC339.out); rintro e w29 ⟨v341, rfl, ho0, hb⟩; have n0_ := Aside0.mk (Kd.R_lower ho0 (below_size kz6_1)); have n1_ := Aside0.mk (below_step kz6_1 hb); clear HB; have HO342 := n0_; have HB := n1_; clear n0_ n1_; (try clear hb); (try clear hb2); (try clear hk); (try clear hi); (try clear ho0)))
          repeat (go_quiet (first | (go_at_call 70; (with_reducible refine (seal_Sum.calls kj3 _ _ y326 t330 _ ?side1 ?side2 A18.out).mono ?_); (case side1 => repeat (first | exact (Kd.C_below HR329.out HB.out) | (with_reducible refine Kd.C_alloc ?_ _) | (with_reducible refine Kd.C_drewN ?_ _) | (with_reducible refine Kd.C_drew ?_))); (case side2 => exact HC329.out); rintro e w' ⟨rfl, ⟨nd, rfl⟩⟩; (try first | exact ⟨rfl, _, World.drewN_drewN _ _ _⟩ | exact ⟨rfl, _, Eq.trans (World.drewN_drewN _ _ _) (congrArg (World.drewN _) (Nat.add_assoc _ _ _))⟩); have q27 : ((ji15) : Int) ≤ ((l0.length : Int) : Int) := of_decide_eq_true kz6_3; obtain ⟨i027, hi027, _, hsz27, _⟩ := info_parts info5; have hroom27 : l0.length ≤ c0 := HC0.out; have hC27 : Kd.C (Kd.int .u8) _ A0 l0.length l0 := HR0.out; have q027 : (0 : Int) ≤ ((ji15) : Int) := of_decide_eq_true kz6_3; have hcut27 := cut_from (P := Try.prog) 50 5 .i64 Try.underlying50 hi027 1 hsz27 A0 l0.length c0 (ji15) q027 q27; have hr27 := Kd.C_drop (m := ((ji15) : Int).toNat) (c := c0) hC27 (by omega) hroom27; obtain ⟨A27, hA27⟩ : ∃ A1, A1 = (if c0 = ((ji15) : Int).toNat then A0 else (A0 : Option Addr).map (·.add (((ji15) : Int).toNat * 1))) := ⟨_, rfl⟩; obtain ⟨c27, hc27⟩ : ∃ c1, c1 = c0 - ((ji15) : Int).toNat := ⟨_, rfl⟩; have hy27 : y331.length = l0.length - ((ji15) : Int).toNat := kz6_9; rw [show (l0).drop ((ji15) : Int).toNat = y331 from Ny331.out.symm] at hr27; replace hr27 : Kd.C (Kd.int .u8) _ A27 y331.length y331 := (by rw [hA27]; exact hr27); rw [← hy27, ← hA27, ← hc27] at hcut27; have HR334 := Aside0.mk hr27; have HC334 := Aside0.mk (show y331.length ≤ c27 from by rw [hy27, hc27]; exact Nat.sub_le_sub_right hroom27 _); clear hr27 hC27 hroom27 hi027 hsz27 hc27; have KY27 := Aside0.mk hy27; have KA27 := Aside0.mk hA27; clear hy27 hA27; replace q27 := eq_true q27) | (go_at_call 75; (with_reducible refine (seal_of.calls _ _ y331 t335 _ ?side1 ?side2 A21.out).mono ?_); (case side1 => repeat (first | exact (Kd.C_below HR334.out kz6_1) | (with_reducible refine Kd.C_alloc ?_ _) | (with_reducible refine Kd.C_drewN ?_ _) | (with_reducible refine Kd.C_drew ?_))); (case side2 => exact HC334.out); rintro e w' ⟨rfl, ⟨nd, rfl⟩⟩; (try first | exact ⟨rfl, _, World.drewN_drewN _ _ _⟩ | exact ⟨rfl, _, Eq.trans (World.drewN_drewN _ _ _) (congrArg (World.drewN _) (Nat.add_assoc _ _ _))⟩); have q28 : ((ji15) : Int) ≤ ((l0.length : Int) : Int) := of_decide_eq_true kz6_3; obtain ⟨i028, hi028, _, hsz28, _⟩ := info_parts info5; have hroom28 : l0.length ≤ c0 := HC0.out; have hC28 : Kd.C (Kd.int .u8) _ A0 l0.length l0 := HR0.out; have ql28 : (4 : Int) ≤ ((ji15) : Int) := of_decide_eq_true kz6_3; have hcut28 := cut_mid (P := Try.prog) 50 5 .i64 .i64 Try.underlying50 hi028 1 hsz28 A0 l0.length c0 4 (ji15) (by omega) ql28 q28 hroom28; have hr28 := Kd.C_mid (lo := (4 : Int).toNat) (hi := ((ji15) : Int).toNat) (c := c0) hC28 (by omega) (by omega) hroom28; obtain ⟨A28, hA28⟩ : ∃ A1, A1 = (if c0 = (4 : Int).toNat then A0 else (A0 : Option Addr).map (·.add ((4 : Int).toNat * 1))) := ⟨_, rfl⟩; obtain ⟨c28, hc28⟩ : ∃ c1, c1 = c0 - (4 : Int).toNat := ⟨_, rfl⟩; have hy28 : y336.length = ((ji15) : Int).toNat - (4 : Int).toNat := (by rw [Ny336.out, List.length_drop, List.length_take] <;> omega); rw [show ((l0).take ((ji15) : Int).toNat).drop (4 : Int).toNat = y336 from Ny336.out.symm] at hr28; replace hr28 : Kd.C (Kd.int .u8) _ A28 y336.length y336 := (by rw [hA28]; exact hr28); rw [← hy28, ← hA28, ← hc28] at hcut28; have HR339 := Aside0.mk hr28; have HC339 := Aside0.mk (show y336.length ≤ c28 from by rw [hy28, hc28]; exact Nat.sub_le_sub_right (Nat.le_trans (by omega) hroom28) _); clear hr28 hC28 hroom28 hi028 hsz28 hc28; have KY28 := Aside0.mk hy28; have KA28 := Aside0.mk hA28; clear hy28 hA28; replace q28 := eq_true q28) | (go_at_call 76; (with_reducible refine (slices_Clone_byte_byte.calls _ _ y336 t340 _ ?side1 ?side2 A25.out).mono ?_); (case side1 => repeat (first | exact (Kd.C_below HR339.out kz6_1) | (with_reducible refine Kd.C_alloc ?_ _) | (with_reducible refine Kd.C_drewN ?_ _) | (with_reducible refine Kd.C_drew ?_))); (case side2 => exact HC339.out); rintro e w29 ⟨v341, rfl, ho0, hb⟩; have n0_ := Aside0.mk (Kd.R_lower ho0 (below_size kz6_1)); have n1_ := Aside0.mk (below_step kz6_1 hb); clear HB; have HO342 := n0_; have HB := n1_; clear n0_ n1_; (try clear hb); (try clear hb2); (try clear hk); (try clear hi); (try clear ho0))); try go_wp2_with (first | (go_at_call 70; (with_reducible refine (seal_Sum.calls kj3 _ _ y326 t330 _ ?side1 ?side2 A18.out).mono ?_); (case side1 => repeat (first | exact (Kd.C_below HR329.out HB.out) | (with_reducible refine Kd.C_alloc ?_ _) | (with_reducible refine Kd.C_drewN ?_ _) | (with_reducible refine Kd.C_drew ?_))); (case side2 => exact HC329.out); rintro e w' ⟨rfl, ⟨nd, rfl⟩⟩; (try first | exact ⟨rfl, _, World.drewN_drewN _ _ _⟩ | exact ⟨rfl, _, Eq.trans (World.drewN_drewN _ _ _) (congrArg (World.drewN _) (Nat.add_assoc _ _ _))⟩); have q27 : ((ji15) : Int) ≤ ((l0.length : Int) : Int) := of_decide_eq_true kz6_3; obtain ⟨i027, hi027, _, hsz27, _⟩ := info_parts info5; have hroom27 : l0.length ≤ c0 := HC0.out; have hC27 : Kd.C (Kd.int .u8) _ A0 l0.length l0 := HR0.out; have q027 : (0 : Int) ≤ ((ji15) : Int) := of_decide_eq_true kz6_3; have hcut27 := cut_from (P := Try.prog) 50 5 .i64 Try.underlying50 hi027 1 hsz27 A0 l0.length c0 (ji15) q027 q27; have hr27 := Kd.C_drop (m := ((ji15) : Int).toNat) (c := c0) hC27 (by omega) hroom27; obtain ⟨A27, hA27⟩ : ∃ A1, A1 = (if c0 = ((ji15) : Int).toNat then A0 else (A0 : Option Addr).map (·.add (((ji15) : Int).toNat * 1))) := ⟨_, rfl⟩; obtain ⟨c27, hc27⟩ : ∃ c1, c1 = c0 - ((ji15) : Int).toNat := ⟨_, rfl⟩; have hy27 : y331.length = l0.length - ((ji15) : Int).toNat := kz6_9; rw [show (l0).drop ((ji15) : Int).toNat = y331 from Ny331.out.symm] at hr27; replace hr27 : Kd.C (Kd.int .u8) _ A27 y331.length y331 := (by rw [hA27]; exact hr27); rw [← hy27, ← hA27, ← hc27] at hcut27; have HR334 := Aside0.mk hr27; have HC334 := Aside0.mk (show y331.length ≤ c27 from by rw [hy27, hc27]; exact Nat.sub_le_sub_right hroom27 _); clear hr27 hC27 hroom27 hi027 hsz27 hc27; have KY27 := Aside0.mk hy27; have KA27 := Aside0.mk hA27; clear hy27 hA27; replace q27 := eq_true q27) | (go_at_call 75; (with_reducible refine (seal_of.calls _ _ y331 t335 _ ?side1 ?side2 A21.out).mono ?_); (case side1 => repeat (first | exact (Kd.C_below HR334.out kz6_1) | (with_reducible refine Kd.C_alloc ?_ _) | (with_reducible refine Kd.C_drewN ?_ _) | (with_reducible refine Kd.C_drew ?_))); (case side2 => exact HC334.out); rintro e w' ⟨rfl, ⟨nd, rfl⟩⟩; (try first | exact ⟨rfl, _, World.drewN_drewN _ _ _⟩ | exact ⟨rfl, _, Eq.trans (World.drewN_drewN _ _ _) (congrArg (World.drewN _) (Nat.add_assoc _ _ _))⟩); have q28 : ((ji15) : Int) ≤ ((l0.length : Int) : Int) := of_decide_eq_true kz6_3; obtain ⟨i028, hi028, _, hsz28, _⟩ := info_parts info5; have hroom28 : l0.length ≤ c0 := HC0.out; have hC28 : Kd.C (Kd.int .u8) _ A0 l0.length l0 := HR0.out; have ql28 : (4 : Int) ≤ ((ji15) : Int) := of_decide_eq_true kz6_3; have hcut28 := cut_mid (P := Try.prog) 50 5 .i64 .i64 Try.underlying50 hi028 1 hsz28 A0 l0.length c0 4 (ji15) (by omega) ql28 q28 hroom28; have hr28 := Kd.C_mid (lo := (4 : Int).toNat) (hi := ((ji15) : Int).toNat) (c := c0) hC28 (by omega) (by omega) hroom28; obtain ⟨A28, hA28⟩ : ∃ A1, A1 = (if c0 = (4 : Int).toNat then A0 else (A0 : Option Addr).map (·.add ((4 : Int).toNat * 1))) := ⟨_, rfl⟩; obtain ⟨c28, hc28⟩ : ∃ c1, c1 = c0 - (4 : Int).toNat := ⟨_, rfl⟩; have hy28 : y336.length = ((ji15) : Int).toNat - (4 : Int).toNat := (by rw [Ny336.out, List.length_drop, List.length_take] <;> omega); rw [show ((l0).take ((ji15) : Int).toNat).drop (4 : Int).toNat = y336 from Ny336.out.symm] at hr28; replace hr28 : Kd.C (Kd.int .u8) _ A28 y336.length y336 := (by rw [hA28]; exact hr28); rw [← hy28, ← hA28, ← hc28] at hcut28; have HR339 := Aside0.mk hr28; have HC339 := Aside0.mk (show y336.length ≤ c28 from by rw [hy28, hc28]; exact Nat.sub_le_sub_right (Nat.le_trans (by omega) hroom28) _); clear hr28 hC28 hroom28 hi028 hsz28 hc28; have KY28 := Aside0.mk hy28; have KA28 := Aside0.mk hA28; clear hy28 hA28; replace q28 := eq_true q28) | (go_at_call 76; (with_reducible refine (slices_Clone_byte_byte.calls _ _ y336 t340 _ ?side1 ?side2 A25.out).mono ?_); (case side1 => repeat (first | exact (Kd.C_below HR339.out kz6_1) | (with_reducible refine Kd.C_alloc ?_ _) | (with_reducible refine Kd.C_drewN ?_ _) | (with_reducible refine Kd.C_drew ?_))); (case side2 => exact HC339.out); rintro e w29 ⟨v341, rfl, ho0, hb⟩; have n0_ := Aside0.mk (Kd.R_lower ho0 (below_size kz6_1)); have n1_ := Aside0.mk (below_step kz6_1 hb); clear HB; have HO342 := n0_; have HB := n1_; clear n0_ n1_; (try clear hb); (try clear hb2); (try clear hk); (try clear hi); (try clear ho0))))
          go_ret3
          exact ⟨_, by first | rfl | (simp [errW_none, errW_some] <;> rfl) | (simp only [← hji15]; first | rfl | (simp [errW_none, errW_some] <;> rfl)) | (simp [*, errW_none, errW_some] <;> rfl), by (with_reducible repeat (first | apply Kd.R_alloc | apply Kd.R_drewN | apply Kd.R_drew)); exact HO342.out, by repeat (first | (with_reducible first | exact HB.out | apply below_alloc | apply pw_below_drewN | apply below_drew1) | exact HB.out)⟩
         ·rw [if_neg c23] at H
          exact absurd H (by simp)
        ·rw [if_neg c22] at H
         have c22b0 : (t330 == t335) = false := beq_eq_false_iff_ne.mpr c22
         have c22b1 : (t330 != t335) = true := bne_iff_ne.mpr c22
         simp only [Option.some.injEq, Prod.mk.injEq] at H
         obtain ⟨rfl, rfl, rfl⟩ := H
         have q30 : ((ji15) : Int) ≤ ((l0.length : Int) : Int) := of_decide_eq_true kz6_3
         obtain ⟨i030, hi030, _, hsz30, _⟩ := info_parts info5
         have hroom30 : l0.length ≤ c0 := HC0.out
         have hC30 : Kd.C (Kd.int .u8) _ A0 l0.length l0 := HR0.out
         have hcut30 := cut_to (P := Try.prog) 50 5 .i64 Try.underlying50 hi030 A0 l0.length c0 (ji15) (of_decide_eq_true kz6_3) q30 hroom30
         have hr30 := Kd.C_take (m := ((ji15) : Int).toNat) hC30 (by omega)
         have hy30 : y326.length = ((ji15) : Int).toNat := (by rw [Ny326.out, List.length_take]; omega)
         rw [← Ny326.out] at hr30
         rw [← hy30] at hcut30
         have HR329 := Aside0.mk hr30
         have HC329 := Aside0.mk (show y326.length ≤ c0 from by omega)
         clear hr30 hC30 hroom30 hi030 hsz30
         have KY30 := Aside0.mk hy30
         clear hy30
         replace q30 := eq_true q30
         go_wp2_with (first | (go_at_call 70; (with_reducible refine (seal_Sum.calls kj3 _ _ y326 t330 _ ?side1 ?side2 A18.out).mono ?_); (case side1 => repeat (first | exact (Kd.C_below HR329.out HB.out) | (with_reducible refine Kd.C_alloc ?_ _) | (with_reducible refine Kd.C_drewN ?_ _) | (with_reducible refine Kd.C_drew ?_))); (case side2 => exact HC329.out); rintro e w' ⟨rfl, ⟨nd, rfl⟩⟩; (try first | exact ⟨rfl, _, World.drewN_drewN _ _ _⟩ | exact ⟨rfl, _, Eq.trans (World.drewN_drewN _ _ _) (congrArg (World.drewN _) (Nat.add_assoc _ _ _))⟩); have q31 : ((ji15) : Int) ≤ ((l0.length : Int) : Int) := of_decide_eq_true kz6_3; obtain ⟨i031, hi031, _, hsz31, _⟩ := info_parts info5; have hroom31 : l0.length ≤ c0 := HC0.out; have hC31 : Kd.C (Kd.int .u8) _ A0 l0.length l0 := HR0.out; have q031 : (0 : Int) ≤ ((ji15) : Int) := of_decide_eq_true kz6_3; have hcut31 := cut_from (P := Try.prog) 50 5 .i64 Try.underlying50 hi031 1 hsz31 A0 l0.length c0 (ji15) q031 q31; have hr31 := Kd.C_drop (m := ((ji15) : Int).toNat) (c := c0) hC31 (by omega) hroom31; obtain ⟨A31, hA31⟩ : ∃ A1, A1 = (if c0 = ((ji15) : Int).toNat then A0 else (A0 : Option Addr).map (·.add (((ji15) : Int).toNat * 1))) := ⟨_, rfl⟩; obtain ⟨c31, hc31⟩ : ∃ c1, c1 = c0 - ((ji15) : Int).toNat := ⟨_, rfl⟩; have hy31 : y331.length = l0.length - ((ji15) : Int).toNat := kz6_9; rw [show (l0).drop ((ji15) : Int).toNat = y331 from Ny331.out.symm] at hr31; replace hr31 : Kd.C (Kd.int .u8) _ A31 y331.length y331 := (by rw [hA31]; exact hr31); rw [← hy31, ← hA31, ← hc31] at hcut31; have HR334 := Aside0.mk hr31; have HC334 := Aside0.mk (show y331.length ≤ c31 from by rw [hy31, hc31]; exact Nat.sub_le_sub_right hroom31 _); clear hr31 hC31 hroom31 hi031 hsz31 hc31; have KY31 := Aside0.mk hy31; have KA31 := Aside0.mk hA31; clear hy31 hA31; replace q31 := eq_true q31) | (go_at_call 75; (with_reducible refine (seal_of.calls _ _ y331 t335 _ ?side1 ?side2 A21.out).mono ?_); (case side1 => repeat (first | exact (Kd.C_below HR334.out kz6_1) | (with_reducible refine Kd.C_alloc ?_ _) | (with_reducible refine Kd.C_drewN ?_ _) | (with_reducible refine Kd.C_drew ?_))); (case side2 => exact HC334.out); rintro e w' ⟨rfl, ⟨nd, rfl⟩⟩; (try first | exact ⟨rfl, _, World.drewN_drewN _ _ _⟩ | exact ⟨rfl, _, Eq.trans (World.drewN_drewN _ _ _) (congrArg (World.drewN _) (Nat.add_assoc _ _ _))⟩)))
         repeat (go_quiet (first | (go_at_call 70; (with_reducible refine (seal_Sum.calls kj3 _ _ y326 t330 _ ?side1 ?side2 A18.out).mono ?_); (case side1 => repeat (first | exact (Kd.C_below HR329.out HB.out) | (with_reducible refine Kd.C_alloc ?_ _) | (with_reducible refine Kd.C_drewN ?_ _) | (with_reducible refine Kd.C_drew ?_))); (case side2 => exact HC329.out); rintro e w' ⟨rfl, ⟨nd, rfl⟩⟩; (try first | exact ⟨rfl, _, World.drewN_drewN _ _ _⟩ | exact ⟨rfl, _, Eq.trans (World.drewN_drewN _ _ _) (congrArg (World.drewN _) (Nat.add_assoc _ _ _))⟩); have q31 : ((ji15) : Int) ≤ ((l0.length : Int) : Int) := of_decide_eq_true kz6_3; obtain ⟨i031, hi031, _, hsz31, _⟩ := info_parts info5; have hroom31 : l0.length ≤ c0 := HC0.out; have hC31 : Kd.C (Kd.int .u8) _ A0 l0.length l0 := HR0.out; have q031 : (0 : Int) ≤ ((ji15) : Int) := of_decide_eq_true kz6_3; have hcut31 := cut_from (P := Try.prog) 50 5 .i64 Try.underlying50 hi031 1 hsz31 A0 l0.length c0 (ji15) q031 q31; have hr31 := Kd.C_drop (m := ((ji15) : Int).toNat) (c := c0) hC31 (by omega) hroom31; obtain ⟨A31, hA31⟩ : ∃ A1, A1 = (if c0 = ((ji15) : Int).toNat then A0 else (A0 : Option Addr).map (·.add (((ji15) : Int).toNat * 1))) := ⟨_, rfl⟩; obtain ⟨c31, hc31⟩ : ∃ c1, c1 = c0 - ((ji15) : Int).toNat := ⟨_, rfl⟩; have hy31 : y331.length = l0.length - ((ji15) : Int).toNat := kz6_9; rw [show (l0).drop ((ji15) : Int).toNat = y331 from Ny331.out.symm] at hr31; replace hr31 : Kd.C (Kd.int .u8) _ A31 y331.length y331 := (by rw [hA31]; exact hr31); rw [← hy31, ← hA31, ← hc31] at hcut31; have HR334 := Aside0.mk hr31; have HC334 := Aside0.mk (show y331.length ≤ c31 from by rw [hy31, hc31]; exact Nat.sub_le_sub_right hroom31 _); clear hr31 hC31 hroom31 hi031 hsz31 hc31; have KY31 := Aside0.mk hy31; have KA31 := Aside0.mk hA31; clear hy31 hA31; replace q31 := eq_true q31) | (go_at_call 75; (with_reducible refine (seal_of.calls _ _ y331 t335 _ ?side1 ?side2 A21.out).mono ?_); (case side1 => repeat (first | exact (Kd.C_below HR334.out kz6_1) | (with_reducible refine Kd.C_alloc ?_ _) | (with_reducible refine Kd.C_drewN ?_ _) | (with_reducible refine Kd.C_drew ?_))); (case side2 => exact HC334.out); rintro e w' ⟨rfl, ⟨nd, rfl⟩⟩; (try first | exact ⟨rfl, _, World.drewN_drewN _ _ _⟩ | exact ⟨rfl, _, Eq.trans (World.drewN_drewN _ _ _) (congrArg (World.drewN _) (Nat.add_assoc _ _ _))⟩))); try go_wp2_with (first | (go_at_call 70; (with_reducible refine (seal_Sum.calls kj3 _ _ y326 t330 _ ?side1 ?side2 A18.out).mono ?_); (case side1 => repeat (first | exact (Kd.C_below HR329.out HB.out) | (with_reducible refine Kd.C_alloc ?_ _) | (with_reducible refine Kd.C_drewN ?_ _) | (with_reducible refine Kd.C_drew ?_))); (case side2 => exact HC329.out); rintro e w' ⟨rfl, ⟨nd, rfl⟩⟩; (try first | exact ⟨rfl, _, World.drewN_drewN _ _ _⟩ | exact ⟨rfl, _, Eq.trans (World.drewN_drewN _ _ _) (congrArg (World.drewN _) (Nat.add_assoc _ _ _))⟩); have q31 : ((ji15) : Int) ≤ ((l0.length : Int) : Int) := of_decide_eq_true kz6_3; obtain ⟨i031, hi031, _, hsz31, _⟩ := info_parts info5; have hroom31 : l0.length ≤ c0 := HC0.out; have hC31 : Kd.C (Kd.int .u8) _ A0 l0.length l0 := HR0.out; have q031 : (0 : Int) ≤ ((ji15) : Int) := of_decide_eq_true kz6_3; have hcut31 := cut_from (P := Try.prog) 50 5 .i64 Try.underlying50 hi031 1 hsz31 A0 l0.length c0 (ji15) q031 q31; have hr31 := Kd.C_drop (m := ((ji15) : Int).toNat) (c := c0) hC31 (by omega) hroom31; obtain ⟨A31, hA31⟩ : ∃ A1, A1 = (if c0 = ((ji15) : Int).toNat then A0 else (A0 : Option Addr).map (·.add (((ji15) : Int).toNat * 1))) := ⟨_, rfl⟩; obtain ⟨c31, hc31⟩ : ∃ c1, c1 = c0 - ((ji15) : Int).toNat := ⟨_, rfl⟩; have hy31 : y331.length = l0.length - ((ji15) : Int).toNat := kz6_9; rw [show (l0).drop ((ji15) : Int).toNat = y331 from Ny331.out.symm] at hr31; replace hr31 : Kd.C (Kd.int .u8) _ A31 y331.length y331 := (by rw [hA31]; exact hr31); rw [← hy31, ← hA31, ← hc31] at hcut31; have HR334 := Aside0.mk hr31; have HC334 := Aside0.mk (show y331.length ≤ c31 from by rw [hy31, hc31]; exact Nat.sub_le_sub_right hroom31 _); clear hr31 hC31 hroom31 hi031 hsz31 hc31; have KY31 := Aside0.mk hy31; have KA31 := Aside0.mk hA31; clear hy31 hA31; replace q31 := eq_true q31) | (go_at_call 75; (with_reducible refine (seal_of.calls _ _ y331 t335 _ ?side1 ?side2 A21.out).mono ?_); (case side1 => repeat (first | exact (Kd.C_below HR334.out kz6_1) | (with_reducible refine Kd.C_alloc ?_ _) | (with_reducible refine Kd.C_drewN ?_ _) | (with_reducible refine Kd.C_drew ?_))); (case side2 => exact HC334.out); rintro e w' ⟨rfl, ⟨nd, rfl⟩⟩; (try first | exact ⟨rfl, _, World.drewN_drewN _ _ _⟩ | exact ⟨rfl, _, Eq.trans (World.drewN_drewN _ _ _) (congrArg (World.drewN _) (Nat.add_assoc _ _ _))⟩))))
         go_ret3
         exact ⟨_, by first | rfl | (simp [errW_none, errW_some] <;> rfl) | (simp only [← hji15]; first | rfl | (simp [errW_none, errW_some] <;> rfl)) | (simp [*, errW_none, errW_some] <;> rfl), by first | exact Kd.R_nil _ _ _ _ _ | exact Kd.N_nil _ _ _ _ _ | exact Kd.V_nil _ _ _ _ _ | exact Kd.Q_nil _ _ _ _ _ | exact Kd.S_nil _ _ _ _ _, by repeat (first | (with_reducible first | exact HB.out | apply below_alloc | apply pw_below_drewN | apply below_drew1) | exact HB.out)⟩
       ·rw [if_neg c17] at H
        exact absurd H (by simp)
      ·rw [if_neg c16] at H
       exact absurd H (by simp)

end Go.Proofs.Ytdglbiafpofeeaa.POutboxEncodes
