-- Written by fprint.py (wip), by way of the printer's functions; where they are turned, by texts of mine.
import Derived.Test.YtdglbiafpofeeaaPOutboxTurnedx0
import Derived.Test.YtdglbiafpofeeaaPOutboxTurnedx1
import Derived.Test.YtdglbiafpofeeaaPOutboxTurnedx2
namespace Go.Proofs.Ytdglbiafpofeeaa.POutboxTurned
open Go.RowKit Go.Proofs.YtdglbiafpofeeaaW.PrintWords Go.Proofs.YtdglbiafpofeeaaW.PrintLast Go.Proofs.YtdglbiafpofeeaaW.PrintMore
attribute [local go_sem] max2_int min2_int max_two min_two max_three min_three max_four min_four   -- for this text's walks alone
set_option linter.unusedVariables false
set_option linter.unusedSimpArgs false
theorem kz3_1 {p_ : Prop} (h_ : p_ := by repeat (first | (with_reducible first | exact HB.out | apply below_alloc | apply pw_below_drewN | apply below_drew1) | exact HB.out)) : p_ := h_
theorem kz3_2 {p_ : Prop} (h_ : p_ := by repeat (first | (with_reducible first | exact HB.out | apply below_alloc | apply pw_below_drewN | apply below_drew1 | refine below_set ?_ GE181.out | refine below_set ?_ GE183.out) | exact HB.out)) : p_ := h_
theorem kz3_3 {p_ : Prop} (h_ : p_ := by (try simp only [List.map_toArray, List.map_cons, List.map_nil]); first | done | rfl | (simp only [List.length_drop, List.length_take]; rfl)) : p_ := h_
theorem kz3_4 {p_ : Prop} (h_ : p_ := by first | (with_reducible assumption) | assumption) : p_ := h_
theorem kz3_5 {p_ : Prop} (h_ : p_ := by (with_reducible repeat (first | refine blk_drewN ?_ _ | refine blk_drew ?_ | refine blk_alloc ?_ _)); exact BK181.out) : p_ := h_
theorem kz3_6 {p_ : Prop} (h_ : p_ := by repeat (first | (with_reducible first | exact HB.out | apply below_alloc | apply pw_below_drewN | apply below_drew1 | refine below_set ?_ GE181.out) | exact HB.out)) : p_ := h_
theorem kz3_7 {p_ : Prop} (h_ : p_ := by (with_reducible repeat (first | refine blk_drewN ?_ _ | refine blk_drew ?_ | refine blk_alloc ?_ _)); refine blk_put (cs := #[.bool false, .int .i64 0, .string (⟨#[]⟩ : ByteArray)]) ?_ 1 _ rfl; (with_reducible repeat (first | refine blk_drewN ?_ _ | refine blk_drew ?_ | refine blk_alloc ?_ _)); refine blk_put (cs := #[.bool false, .int .i64 0, .string (⟨#[]⟩ : ByteArray)]) ?_ 2 _ rfl; (with_reducible repeat (first | refine blk_drewN ?_ _ | refine blk_drew ?_ | refine blk_alloc ?_ _)); refine blk_put (cs := #[.bool false, .int .i64 0, .string (⟨#[]⟩ : ByteArray)]) ?_ 1 _ rfl; (with_reducible repeat (first | refine blk_drewN ?_ _ | refine blk_drew ?_ | refine blk_alloc ?_ _)); refine blk_put (cs := #[.bool false, .int .i64 0, .string (⟨#[]⟩ : ByteArray)]) ?_ 0 _ rfl; (with_reducible repeat (first | refine blk_drewN ?_ _ | refine blk_drew ?_ | refine blk_alloc ?_ _)); exact BK183.out) : p_ := h_
theorem kz3_8 {p_ : Prop} (h_ : p_ := by (with_reducible repeat (first | refine blk_drewN ?_ _ | refine blk_drew ?_ | refine blk_alloc ?_ _)); refine blk_put (cs := #[.bool false, .int .i64 0, .string (⟨#[]⟩ : ByteArray)]) ?_ 2 _ rfl; (with_reducible repeat (first | refine blk_drewN ?_ _ | refine blk_drew ?_ | refine blk_alloc ?_ _)); refine blk_put (cs := #[.bool false, .int .i64 0, .string (⟨#[]⟩ : ByteArray)]) ?_ 1 _ rfl; (with_reducible repeat (first | refine blk_drewN ?_ _ | refine blk_drew ?_ | refine blk_alloc ?_ _)); refine blk_put (cs := #[.bool false, .int .i64 0, .string (⟨#[]⟩ : ByteArray)]) ?_ 0 _ rfl; (with_reducible repeat (first | refine blk_drewN ?_ _ | refine blk_drew ?_ | refine blk_alloc ?_ _)); exact BK183.out) : p_ := h_
theorem kz3_9 {p_ : Prop} (h_ : p_ := by first | rfl | (simp; done) | (simp [*]; done)) : p_ := h_
theorem kz3_10 {p_ : Prop} (h_ : p_ := by (with_reducible repeat (first | refine blk_drewN ?_ _ | refine blk_drew ?_ | refine blk_alloc ?_ _)); exact BK183.out) : p_ := h_
theorem kz3_11 {p_ : Prop} (h_ : p_ := by rw [Ny235.out, List.length_drop] <;> omega) : p_ := h_

/-! ### seal_Sum: function 70 -/
mutual
def seal_Sum.l0 : Nat → Int → List Int → Int → Int → Option (Int)
 | 0, _, _, _, _ => none
 | k + 1, x3, x7, x8, x9 => if x9 < x8 then (if 0 ≤ x9 then (if x9 < (x7.length : Int) then (seal_Sum.l1 k (Go.bits .xor .u16 x3 (IntKind.u16.wrap ((IntKind.u16.wrap (rd x7 x9)) * 256))) x7 x8 x9 0) else (none)) else (none)) else (some x3)
def seal_Sum.l1 : Nat → Int → List Int → Int → Int → Int → Option (Int)
 | 0, _, _, _, _, _ => none
 | k + 1, x3, x7, x8, x9, x18 => if x18 < 8 then (seal_Sum.l1 k (Go.bits .xor .u16 (IntKind.u16.wrap (x3 * 2)) (IntKind.u16.wrap ((x3 / 32768) * 4129))) x7 x8 x9 (wrap64 (x18 + 1))) else (seal_Sum.l0 k x3 x7 x8 (wrap64 (x9 + 1)))
end
def seal_Sum.f (k : Nat) (l0 : List Int) : Option (Int) := seal_Sum.l0 k 65535 l0 (l0.length : Int) 0
theorem seal_Sum.mono_l : ∀ k, (∀ y0 y1 y2 y3, LeO (seal_Sum.l0 k y0 y1 y2 y3) (seal_Sum.l0 (k + 1) y0 y1 y2 y3)) ∧ (∀ y0 y1 y2 y3 y4, LeO (seal_Sum.l1 k y0 y1 y2 y3 y4) (seal_Sum.l1 (k + 1) y0 y1 y2 y3 y4))
 | 0 => ⟨fun _ _ _ _ r h => by simp [seal_Sum.l0] at h, fun _ _ _ _ _ r h => by simp [seal_Sum.l1] at h⟩
 | k + 1 => by
  obtain ⟨ih0, ih1⟩ := seal_Sum.mono_l k
  refine ⟨?_, ?_⟩
  ·intro y0 y1 y2 y3
   unfold seal_Sum.l0
   repeat' first
   | (with_reducible exact ih0 _ _ _ _)
   | (with_reducible exact ih1 _ _ _ _ _)
   | (with_reducible exact LeO.refl _)
   | (with_reducible exact LeO.none _)
   | (with_reducible refine LeO.ite ?_ ?_)
   | (with_reducible refine LeO.bind ?_ (fun _ => ?_))
   | exact ih0 _ _ _ _
   | exact ih1 _ _ _ _ _
   | exact LeO.none _
   | refine LeO.ite ?_ ?_
   | refine LeO.bind ?_ (fun _ => ?_)
  ·intro y0 y1 y2 y3 y4
   unfold seal_Sum.l1
   repeat' first
   | (with_reducible exact ih0 _ _ _ _)
   | (with_reducible exact ih1 _ _ _ _ _)
   | (with_reducible exact LeO.refl _)
   | (with_reducible exact LeO.none _)
   | (with_reducible refine LeO.ite ?_ ?_)
   | (with_reducible refine LeO.bind ?_ (fun _ => ?_))
   | exact ih0 _ _ _ _
   | exact ih1 _ _ _ _ _
   | exact LeO.none _
   | refine LeO.ite ?_ ?_
   | refine LeO.bind ?_ (fun _ => ?_)
theorem seal_Sum.mono : ∀ a0 k, LeO (seal_Sum.f k a0) (seal_Sum.f (k + 1) a0) := by
 intro a0 k
 obtain ⟨ih0, ih1⟩ := seal_Sum.mono_l k
 unfold seal_Sum.f
 repeat' first
   | (with_reducible exact ih0 _ _ _ _)
   | (with_reducible exact ih1 _ _ _ _ _)
   | (with_reducible exact LeO.refl _)
   | (with_reducible exact LeO.none _)
   | (with_reducible refine LeO.ite ?_ ?_)
   | (with_reducible refine LeO.bind ?_ (fun _ => ?_))
   | exact ih0 _ _ _ _
   | exact ih1 _ _ _ _ _
   | exact LeO.none _
   | refine LeO.ite ?_ ?_
   | refine LeO.bind ?_ (fun _ => ?_)
set_option maxHeartbeats 8000000 in
set_option maxRecDepth 100000 in
theorem seal_Sum.calls (k : Nat) (A0 : Option Addr) (c0 : Nat) (l0 : List Int) (r : Int) (w : World) (hr0 : Kd.C (Kd.int .u8) w A0 l0.length l0) (hc0 : l0.length ≤ c0) (h : seal_Sum.f k l0 = some r) :
  Calls Try.prog 70 #[.slice A0 l0.length c0] w fun e w' => e = .returned (.int .u16 r) ∧ Drawn0 w w' := by
 have HR0 := Aside0.mk hr0
 have HC0 := Aside0.mk hc0
 clear hr0 hc0
 have H : (seal_Sum.l0 k 65535 l0 (l0.length : Int) 0) = some r := h
 clear h
 have H' := Aside0.mk H
 clear H
 go_enter Try.func70, Try.ntmps70
 go_wp2
 go_loopg [3, 9] k (fun kq v3 v9 w' => ∃ (x3_1 : Int) (x9_1 : Int), v3 = .int .u16 x3_1 ∧ v9 = .int .i64 x9_1 ∧ Aside0 (seal_Sum.l0 kq x3_1 l0 (l0.length : Int) x9_1 = some r) ∧ Aside0 (kq ≤ k) ∧ Drawn0 w w')
 case atStart => exact ⟨(65535), (0), kz3_9, kz3_9, H', ⟨Nat.le_refl _⟩, by repeat (first | exact Drawn0.refl _ | apply Drawn0.step)⟩
 case round =>
  clear H'
  obtain ⟨x3_1, x9_1, rfl, rfl, HA, HK1, ⟨m1, rfl⟩⟩ := hrel
  cases gk with
  | zero => exact absurd HA.out (by simp [seal_Sum.l0])
  | succ k1 =>
   have H := HA.out
   clear HA
   simp only [seal_Sum.l0] at H
   by_cases c2 : x9_1 < (l0.length : Int)
   ·rw [if_pos c2] at H
    have c2b0 : decide (x9_1 < (l0.length : Int)) = true := decide_eq_true c2
    clear c2
    by_cases c3 : 0 ≤ x9_1
    ·rw [if_pos c3] at H
     have c3b0 : decide (0 ≤ x9_1) = true := decide_eq_true c3
     clear c3
     by_cases c4 : x9_1 < (l0.length : Int)
     ·rw [if_pos c4] at H
      have c4b0 : decide (x9_1 < (l0.length : Int)) = true := decide_eq_true c4
      clear c4
      have H' := Aside0.mk H
      clear H
      have p166 : 0 ≤ (x9_1 : Int) := of_decide_eq_true kz3_4
      have q166 : x9_1 < (l0.length : Int) := of_decide_eq_true kz3_4
      obtain ⟨ad166, e166, hx166_0⟩ := Kd.at_int HR0.out x9_1 p166 q166
      cases e166
      replace p166 := eq_true p166
      replace q166 := eq_true q166
      go_wp2
      go_loopg [3, 18] k1 (fun kq v3 v18 w' => ∃ (x3_2 : Int) (x18_2 : Int), v3 = .int .u16 x3_2 ∧ v18 = .int .i64 x18_2 ∧ Aside0 (seal_Sum.l1 kq x3_2 l0 (l0.length : Int) x9_1 x18_2 = some r) ∧ Aside0 (kq ≤ k1) ∧ Drawn0 w w')
      case atStart => exact ⟨(Go.bits .xor .u16 x3_1 (IntKind.u16.wrap ((IntKind.u16.wrap (rd l0 x9_1)) * 256))), (0), kz3_9, kz3_9, H', ⟨Nat.le_refl _⟩, by repeat (first | exact Drawn0.refl _ | apply Drawn0.step)⟩
      case round =>
       clear H'
       try clear p1
       try clear q1
       try clear hx1
       try clear c2
       try clear c2b0
       try clear p2
       try clear c3
       try clear c3b0
       try clear c4
       try clear c4b0
       try clear hx166_0
       try clear p166
       try clear q166
       obtain ⟨x3_2, x18_2, rfl, rfl, HA, HK2, ⟨m2, rfl⟩⟩ := hrel
       cases gk with
       | zero => exact absurd HA.out (by simp [seal_Sum.l1])
       | succ k2 =>
        have H := HA.out
        clear HA
        simp only [seal_Sum.l1] at H
        by_cases c5 : x18_2 < 8
        ·rw [if_pos c5] at H
         have c5b0 : decide (x18_2 < 8) = true := decide_eq_true c5
         clear c5
         have H' := Aside0.mk H
         clear H
         go_wp2
         go_roundg k2
         case measure => have := HK1.out; have := HK2.out; omega
         case rel => exact ⟨(Go.bits .xor .u16 (IntKind.u16.wrap (x3_2 * 2)) (IntKind.u16.wrap ((x3_2 / 32768) * 4129))), (wrap64 (x18_2 + 1)), kz3_9, kz3_9, H', ⟨by have := HK1.out; have := HK2.out; omega⟩, by repeat (first | exact Drawn0.refl _ | apply Drawn0.step)⟩
        ·rw [if_neg c5] at H
         have c5b0 : decide (x18_2 < 8) = false := decide_eq_false c5
         clear c5
         have H' := Aside0.mk H
         clear H
         go_wp2
         go_roundg k2
         case measure => have := HK1.out; have := HK2.out; omega
         case rel => exact ⟨(x3_2), (wrap64 (x9_1 + 1)), kz3_9, kz3_9, H', ⟨by have := HK1.out; have := HK2.out; omega⟩, by repeat (first | exact Drawn0.refl _ | apply Drawn0.step)⟩
     ·rw [if_neg c4] at H
      exact absurd H (by simp)
    ·rw [if_neg c3] at H
     exact absurd H (by simp)
   ·rw [if_neg c2] at H
    have c2b0 : decide (x9_1 < (l0.length : Int)) = false := decide_eq_false c2
    clear c2
    obtain rfl := Option.some.inj H
    go_wp2
    go_ret
    exact ⟨by first | rfl | (simp; done) | (simp [*]; done), by repeat (first | exact Drawn0.refl _ | apply Drawn0.step)⟩

/-! ### seal_Seal: function 55 -/
def seal_Seal.f (k : Nat) (l0 : List Int) : Option (List Int × Int) := if (l0.length : Int) = 0 then (some (([] : List Int), 1)) else (if (l0.length : Int) > 14000 then (some (([] : List Int), 4)) else ((seal_two.f ([] : List Int) (IntKind.u16.wrap ((l0.length : Int)))).bind fun t167 => ((seal_Sum.f k t167).bind fun t170 => ((seal_two.f t167 t170).bind fun t171 => (if t171.length + l0.length < 140737488355328 then ((some (t171 ++ l0 : List Int)).bind fun y174 => ((seal_Sum.f k y174).bind fun t177 => ((seal_two.f y174 t177).bind fun t178 => (some (t178, 0))))) else (none))))))
theorem seal_Seal.mono : ∀ a0 k, LeO (seal_Seal.f k a0) (seal_Seal.f (k + 1) a0) := by
 intro a0 k
 unfold seal_Seal.f
 repeat' first
   | (with_reducible exact seal_Sum.mono _ _)
   | (with_reducible exact LeO.refl _)
   | (with_reducible exact LeO.none _)
   | (with_reducible refine LeO.ite ?_ ?_)
   | (with_reducible refine LeO.bind ?_ (fun _ => ?_))
   | exact seal_Sum.mono _ _
   | exact LeO.none _
   | refine LeO.ite ?_ ?_
   | refine LeO.bind ?_ (fun _ => ?_)
set_option maxHeartbeats 8000000 in
set_option maxRecDepth 100000 in
theorem seal_Seal.calls (k : Nat) (A0 : Option Addr) (c0 : Nat) (l0 : List Int) (r1 : List Int) (r2 : Int) (w : World) (hr0 : Kd.C (Kd.int .u8) w A0 l0.length l0) (hc0 : l0.length ≤ c0) (h : seal_Seal.f k l0 = some (r1, r2)) :
  Calls Try.prog 55 #[.slice A0 l0.length c0] w fun e w' => ∃ v0_ : Value, e = .returned (.tuple #[v0_, .int .i64 r2]) ∧ Kd.R (Kd.int .u8) 5 w' w.heap.size (fun _ => True) v0_ r1 ∧ Below w.heap.size w w' := by
 have HR0 := Aside0.mk hr0
 have HC0 := Aside0.mk hc0
 clear hr0 hc0
 have HB := Aside0.mk (Below.refl w.heap.size w)
 have H : (if (l0.length : Int) = 0 then (some (([] : List Int), 1)) else (if (l0.length : Int) > 14000 then (some (([] : List Int), 4)) else ((seal_two.f ([] : List Int) (IntKind.u16.wrap ((l0.length : Int)))).bind fun t167 => ((seal_Sum.f k t167).bind fun t170 => ((seal_two.f t167 t170).bind fun t171 => (if t171.length + l0.length < 140737488355328 then ((some (t171 ++ l0 : List Int)).bind fun y174 => ((seal_Sum.f k y174).bind fun t177 => ((seal_two.f y174 t177).bind fun t178 => (some (t178, 0))))) else (none))))))) = some (r1, r2) := h
 clear h
 by_cases c2 : (l0.length : Int) = 0
 ·rw [if_pos c2] at H
  have c2b0 : ((l0.length : Int) == 0) = true := beq_iff_eq.mpr c2
  have c2b1 : ((l0.length : Int) != 0) = false := bne_eq_false_iff_eq.mpr c2
  clear c2
  simp only [Option.some.injEq, Prod.mk.injEq] at H
  obtain ⟨rfl, rfl⟩ := H
  go_enter Try.func55, Try.ntmps55
  go_wp2
  go_ret2
  exact ⟨_, by first | rfl | (simp [errW_none, errW_some] <;> rfl) | (simp [*, errW_none, errW_some] <;> rfl), by first | exact Kd.R_nil _ _ _ _ _ | exact Kd.N_nil _ _ _ _ _ | exact Kd.V_nil _ _ _ _ _ | exact Kd.Q_nil _ _ _ _ _ | exact Kd.S_nil _ _ _ _ _, by repeat (first | (with_reducible first | exact HB.out | apply below_alloc | apply pw_below_drewN | apply below_drew1) | exact HB.out)⟩
 ·rw [if_neg c2] at H
  have c2b0 : ((l0.length : Int) == 0) = false := beq_eq_false_iff_ne.mpr c2
  have c2b1 : ((l0.length : Int) != 0) = true := bne_iff_ne.mpr c2
  have c2b2 : ¬ (l0 = []) := fun h_ => c2 (by rw [h_]; rfl)
  by_cases c3 : (l0.length : Int) > 14000
  ·rw [if_pos c3] at H
   have c3b0 : decide (14000 < (l0.length : Int)) = true := decide_eq_true c3
   have c3b1 : decide (14000 < l0.length) = true := decide_eq_true (by omega)
   clear c3
   simp only [Option.some.injEq, Prod.mk.injEq] at H
   obtain ⟨rfl, rfl⟩ := H
   go_enter Try.func55, Try.ntmps55
   go_wp2
   go_ret2
   exact ⟨_, by first | rfl | (simp [errW_none, errW_some] <;> rfl) | (simp [*, errW_none, errW_some] <;> rfl), by first | exact Kd.R_nil _ _ _ _ _ | exact Kd.N_nil _ _ _ _ _ | exact Kd.V_nil _ _ _ _ _ | exact Kd.Q_nil _ _ _ _ _ | exact Kd.S_nil _ _ _ _ _, by repeat (first | (with_reducible first | exact HB.out | apply below_alloc | apply pw_below_drewN | apply below_drew1) | exact HB.out)⟩
  ·rw [if_neg c3] at H
   have c3b0 : decide (14000 < (l0.length : Int)) = false := decide_eq_false c3
   have c3b1 : decide (14000 < l0.length) = false := decide_eq_false (by omega)
   clear c3
   replace H := Option.bind_eq_some_iff.mp H
   obtain ⟨t167, A40, H⟩ := H
   replace H : ((seal_Sum.f k t167).bind fun t170 => ((seal_two.f t167 t170).bind fun t171 => (if t171.length + l0.length < 140737488355328 then ((some (t171 ++ l0 : List Int)).bind fun y174 => ((seal_Sum.f k y174).bind fun t177 => ((seal_two.f y174 t177).bind fun t178 => (some (t178, 0))))) else (none)))) = some (r1, r2) := H
   have A4 := Aside0.mk A40
   clear A40
   replace H := Option.bind_eq_some_iff.mp H
   obtain ⟨t170, A50, H⟩ := H
   replace H : ((seal_two.f t167 t170).bind fun t171 => (if t171.length + l0.length < 140737488355328 then ((some (t171 ++ l0 : List Int)).bind fun y174 => ((seal_Sum.f k y174).bind fun t177 => ((seal_two.f y174 t177).bind fun t178 => (some (t178, 0))))) else (none))) = some (r1, r2) := H
   have A5 := Aside0.mk A50
   clear A50
   replace H := Option.bind_eq_some_iff.mp H
   obtain ⟨t171, A60, H⟩ := H
   replace H : (if t171.length + l0.length < 140737488355328 then ((some (t171 ++ l0 : List Int)).bind fun y174 => ((seal_Sum.f k y174).bind fun t177 => ((seal_two.f y174 t177).bind fun t178 => (some (t178, 0))))) else (none)) = some (r1, r2) := H
   have A6 := Aside0.mk A60
   clear A60
   by_cases c7 : t171.length + l0.length < 140737488355328
   ·rw [if_pos c7] at H
    have LMc7 := Aside0.mk c7
    clear c7
    obtain ⟨y174, hy174⟩ : ∃ y_ : List Int, y_ = (t171 ++ l0) := ⟨_, rfl⟩
    replace H : ((seal_Sum.f k y174).bind fun t177 => ((seal_two.f y174 t177).bind fun t178 => (some (t178, 0)))) = some (r1, r2) := by first | (rw [hy174]; with_reducible exact H) | (have H2_ := (Option.bind_some _ _).symm.trans H; rw [hy174]; with_reducible exact H2_) | (have H2_ := (Option.bind_some _ _).symm.trans H; with_reducible exact H2_) | with_reducible exact H | (rw [hy174]; exact H) | exact H
    have Ny174 := Aside0.mk hy174
    clear hy174
    replace H := Option.bind_eq_some_iff.mp H
    obtain ⟨t177, A80, H⟩ := H
    replace H : ((seal_two.f y174 t177).bind fun t178 => (some (t178, 0))) = some (r1, r2) := H
    have A8 := Aside0.mk A80
    clear A80
    replace H := Option.bind_eq_some_iff.mp H
    obtain ⟨t178, A90, H⟩ := H
    replace H : (some (t178, 0)) = some (r1, r2) := H
    have A9 := Aside0.mk A90
    clear A90
    simp only [Option.some.injEq, Prod.mk.injEq] at H
    obtain ⟨rfl, rfl⟩ := H
    go_enter Try.func55, Try.ntmps55
    go_wp2_with (first | ((with_reducible refine gate_callee (f := 69) rfl ?_); refine goesL_ (some 16) rfl rfl Try.func69 (by kernel_rfl) rfl #[.slice none 0 0, .int .u16 (IntKind.u16.wrap ((l0.length : Int)))] rfl kz3_3 ?_; (refine (seal_two.calls (fun k_ => some k_ = (.slice none 0 0 : Value).ownBlock) (.slice none 0 0) ([] : List Int) (IntKind.u16.wrap ((l0.length : Int))) t167 w _ ?side1 ?side2 A4.out).mono ?_); (case side1 => repeat (first | (with_reducible first | exact HB.out | apply below_alloc | apply pw_below_drewN | apply below_drew1) | exact HB.out)); (case side2 => exact Kd.R_nil _ _ _ _ _); rintro e w10 ⟨v168, rfl, ho0, hb, hkp⟩; refine ⟨_, rfl, ?_⟩; have n0_ := Aside0.mk (Kd.R_mono (ok' := fun k_ => True) ho0 (fun k_ hk_ => trivial)); have n1_ := Aside0.mk (hb); clear HB; have HO169 := n0_; have HB := n1_; clear n0_ n1_; (try clear hb); (try clear hkp); (try clear ho0); obtain ⟨Ao11, co11, eo11⟩ := Kd.R_slice HO169.out; subst eo11) | ((with_reducible refine gate_callee (f := 70) rfl ?_); refine goesL_ (some 19) rfl rfl Try.func70 (by kernel_rfl) rfl #[.slice Ao11 t167.length co11] rfl kz3_3 ?_; (with_reducible refine (seal_Sum.calls k _ _ t167 t170 _ ?side1 ?side2 A5.out).mono ?_); (case side1 => repeat (first | exact (Kd.R_reads' HO169.out).2.2 | (with_reducible refine Kd.C_alloc ?_ _) | (with_reducible refine Kd.C_drewN ?_ _) | (with_reducible refine Kd.C_drew ?_))); (case side2 => exact (Kd.R_reads' HO169.out).2.1); rintro e w' ⟨rfl, ⟨nd, rfl⟩⟩; refine ⟨_, rfl, ?_⟩) | ((with_reducible refine gate_callee (f := 69) rfl ?_); refine goesL_ (some 20) rfl rfl Try.func69 (by kernel_rfl) rfl #[.slice Ao11 t167.length co11, .int .u16 t170] rfl kz3_3 ?_; (with_reducible refine (seal_two.calls (fun k_ => some k_ = (.slice Ao11 t167.length co11 : Value).ownBlock) (.slice Ao11 t167.length co11) t167 t170 t171 w _ ?side1 ?side2 A6.out).mono ?_); (case side1 => repeat (first | (with_reducible first | exact HB.out | apply below_alloc | apply pw_below_drewN | apply below_drew1) | exact HB.out)); (case side2 => exact Kd.R_tight rfl HO169.out); rintro e w12 ⟨v172, rfl, ho0, hb, hkp⟩; refine ⟨_, rfl, ?_⟩; have n0_ := Aside0.mk (Kd.R_mono (ok' := fun k_ => True) ho0 (fun k_ hk_ => trivial)); have n1_ := Aside0.mk (hb); clear HB; clear HO169; have HO173 := n0_; have HB := n1_; clear n0_ n1_; (try clear hb); (try clear hkp); (try clear ho0)) | ((with_reducible refine gate_builtin (b := .append) (xs := #[.tmp 21, .tmp 22]) rfl ?_); at_builtin; refine Kd.R_append_rows (Kd.int .u8) (w0 := w) w.heap.size rfl (.tmp 21) (.tmp 22) 50 5 (.int .u8 0) 1 rfl Try.underlying50 info5 rfl (by decide) (by omega) v172 t171 l0 _ _ _ (fun _ => True) (fun _ => False) rfl rfl ?aO ?aR (fun _ _ h => h) (fun _ h => h.elim) ?aF ?aB ?aS ?aL ?_; (case aR => repeat (first | exact (Kd.C_below HR0.out HB.out) | (with_reducible refine Kd.C_alloc ?_ _) | (with_reducible refine Kd.C_drewN ?_ _) | (with_reducible refine Kd.C_drew ?_))); (case aB => exact kz3_1); (case aF => exact (fun _ _ => trivial)); (case aO => exact (by (with_reducible repeat (first | apply Kd.R_alloc | apply Kd.R_drewN | apply Kd.R_drew)); exact HO173.out)); (case aS => exact (below_size kz3_1)); (case aL => have := LMc7.out; omega); intro v175 w13 ho hb hg hat; rw [← Ny174.out] at ho; have n0_ := Aside0.mk (hb); have n1_ := Aside0.mk (ho); clear HB; clear HO173; have HB := n0_; have HO176 := n1_; clear n0_ n1_; clear ho hb hg hat; obtain ⟨Ao14, co14, eo14⟩ := Kd.R_slice HO176.out; subst eo14) | ((with_reducible refine gate_callee (f := 70) rfl ?_); refine goesL_ (some 26) rfl rfl Try.func70 (by kernel_rfl) rfl #[.slice Ao14 y174.length co14] rfl kz3_3 ?_; (with_reducible refine (seal_Sum.calls k _ _ y174 t177 _ ?side1 ?side2 A8.out).mono ?_); (case side1 => repeat (first | exact (Kd.R_reads' HO176.out).2.2 | (with_reducible refine Kd.C_alloc ?_ _) | (with_reducible refine Kd.C_drewN ?_ _) | (with_reducible refine Kd.C_drew ?_))); (case side2 => exact (Kd.R_reads' HO176.out).2.1); rintro e w' ⟨rfl, ⟨nd, rfl⟩⟩; refine ⟨_, rfl, ?_⟩) | ((with_reducible refine gate_callee (f := 69) rfl ?_); refine goesL_ (some 27) rfl rfl Try.func69 (by kernel_rfl) rfl #[.slice Ao14 y174.length co14, .int .u16 t177] rfl kz3_3 ?_; (with_reducible refine (seal_two.calls (fun k_ => some k_ = (.slice Ao14 y174.length co14 : Value).ownBlock) (.slice Ao14 y174.length co14) y174 t177 t178 w _ ?side1 ?side2 A9.out).mono ?_); (case side1 => repeat (first | (with_reducible first | exact HB.out | apply below_alloc | apply pw_below_drewN | apply below_drew1) | exact HB.out)); (case side2 => exact Kd.R_tight rfl HO176.out); rintro e w15 ⟨v179, rfl, ho0, hb, hkp⟩; refine ⟨_, rfl, ?_⟩; have n0_ := Aside0.mk (Kd.R_mono (ok' := fun k_ => True) ho0 (fun k_ hk_ => trivial)); have n1_ := Aside0.mk (hb); clear HB; clear HO176; have HO180 := n0_; have HB := n1_; clear n0_ n1_; (try clear hb); (try clear hkp); (try clear ho0)))
    go_ret2
    exact ⟨_, by first | rfl | (simp [errW_none, errW_some] <;> rfl) | (simp [*, errW_none, errW_some] <;> rfl), by (with_reducible repeat (first | apply Kd.R_alloc | apply Kd.R_drewN | apply Kd.R_drew)); exact HO180.out, by repeat (first | (with_reducible first | exact HB.out | apply below_alloc | apply pw_below_drewN | apply below_drew1) | exact HB.out)⟩
   ·rw [if_neg c7] at H
    exact absurd H (by simp)

/-! ### outbox_Encode: function 34 -/
def outbox_Encode.f (k : Nat) (a0_0 : Int) (a0_1 : Int) (a0_2 : Int) (a0_3 : ByteArray) (a0_4 : Int) (a0_5 : Bool) : Option (List Int × Int) := (outbox_Formed.f a0_0 a0_1 a0_2 a0_3 a0_4 a0_5).bind fun t182 => (if t182 = true then (if a0_5 = true then ((pack_Items.f k (([(⟨false, a0_0, (⟨#[]⟩ : ByteArray)⟩ : S112), (⟨false, a0_1, (⟨#[]⟩ : ByteArray)⟩ : S112), (⟨false, a0_2, (⟨#[]⟩ : ByteArray)⟩ : S112), (⟨true, 0, a0_3⟩ : S112), (⟨false, a0_4, (⟨#[]⟩ : ByteArray)⟩ : S112), (⟨false, 1, (⟨#[]⟩ : ByteArray)⟩ : S112)] : List (S112)))).bind fun bt187 => ((seal_Seal.f k bt187.1).bind fun bt191 => (some (bt191.1, bt191.2)))) else ((pack_Items.f k (([(⟨false, a0_0, (⟨#[]⟩ : ByteArray)⟩ : S112), (⟨false, a0_1, (⟨#[]⟩ : ByteArray)⟩ : S112), (⟨false, a0_2, (⟨#[]⟩ : ByteArray)⟩ : S112), (⟨true, 0, a0_3⟩ : S112), (⟨false, a0_4, (⟨#[]⟩ : ByteArray)⟩ : S112), (⟨false, 0, (⟨#[]⟩ : ByteArray)⟩ : S112)] : List (S112)))).bind fun bt198 => ((seal_Seal.f k bt198.1).bind fun bt202 => (some (bt202.1, bt202.2))))) else (some (([] : List Int), 1)))
theorem outbox_Encode.mono : ∀ a0 a1 a2 a3 a4 a5 k, LeO (outbox_Encode.f k a0 a1 a2 a3 a4 a5) (outbox_Encode.f (k + 1) a0 a1 a2 a3 a4 a5) := by
 intro a0 a1 a2 a3 a4 a5 k
 unfold outbox_Encode.f
 repeat' first
   | (with_reducible exact pack_Items.mono _ _)
   | (with_reducible exact seal_Seal.mono _ _)
   | (with_reducible exact LeO.refl _)
   | (with_reducible exact LeO.none _)
   | (with_reducible refine LeO.ite ?_ ?_)
   | (with_reducible refine LeO.bind ?_ (fun _ => ?_))
   | exact pack_Items.mono _ _
   | exact seal_Seal.mono _ _
   | exact LeO.none _
   | refine LeO.ite ?_ ?_
   | refine LeO.bind ?_ (fun _ => ?_)
set_option maxHeartbeats 8000000 in
set_option maxRecDepth 100000 in
theorem outbox_Encode.calls (k : Nat) (a0_0 : Int) (a0_1 : Int) (a0_2 : Int) (a0_3 : ByteArray) (a0_4 : Int) (a0_5 : Bool) (r1 : List Int) (r2 : Int) (w : World) (h : outbox_Encode.f k a0_0 a0_1 a0_2 a0_3 a0_4 a0_5 = some (r1, r2)) :
  Calls Try.prog 34 #[.agg #[.int .i64 a0_0, .int .i64 a0_1, .int .i64 a0_2, .string a0_3, .int .i64 a0_4, .bool a0_5]] w fun e w' => ∃ v0_ : Value, e = .returned (.tuple #[v0_, .int .i64 r2]) ∧ Kd.R (Kd.int .u8) 5 w' w.heap.size (fun _ => True) v0_ r1 ∧ Below w.heap.size w w' := by
 have hu28 := Try.underlying28
 have hu112 := Try.underlying112
 have HB := Aside0.mk (Below.refl w.heap.size w)
 have H : ((outbox_Formed.f a0_0 a0_1 a0_2 a0_3 a0_4 a0_5).bind fun t182 => (if t182 = true then (if a0_5 = true then ((pack_Items.f k (([(⟨false, a0_0, (⟨#[]⟩ : ByteArray)⟩ : S112), (⟨false, a0_1, (⟨#[]⟩ : ByteArray)⟩ : S112), (⟨false, a0_2, (⟨#[]⟩ : ByteArray)⟩ : S112), (⟨true, 0, a0_3⟩ : S112), (⟨false, a0_4, (⟨#[]⟩ : ByteArray)⟩ : S112), (⟨false, 1, (⟨#[]⟩ : ByteArray)⟩ : S112)] : List (S112)))).bind fun bt187 => ((seal_Seal.f k bt187.1).bind fun bt191 => (some (bt191.1, bt191.2)))) else ((pack_Items.f k (([(⟨false, a0_0, (⟨#[]⟩ : ByteArray)⟩ : S112), (⟨false, a0_1, (⟨#[]⟩ : ByteArray)⟩ : S112), (⟨false, a0_2, (⟨#[]⟩ : ByteArray)⟩ : S112), (⟨true, 0, a0_3⟩ : S112), (⟨false, a0_4, (⟨#[]⟩ : ByteArray)⟩ : S112), (⟨false, 0, (⟨#[]⟩ : ByteArray)⟩ : S112)] : List (S112)))).bind fun bt198 => ((seal_Seal.f k bt198.1).bind fun bt202 => (some (bt202.1, bt202.2))))) else (some (([] : List Int), 1)))) = some (r1, r2) := h
 clear h
 replace H := Option.bind_eq_some_iff.mp H
 obtain ⟨t182, A20, H⟩ := H
 replace H : (if t182 = true then (if a0_5 = true then ((pack_Items.f k (([(⟨false, a0_0, (⟨#[]⟩ : ByteArray)⟩ : S112), (⟨false, a0_1, (⟨#[]⟩ : ByteArray)⟩ : S112), (⟨false, a0_2, (⟨#[]⟩ : ByteArray)⟩ : S112), (⟨true, 0, a0_3⟩ : S112), (⟨false, a0_4, (⟨#[]⟩ : ByteArray)⟩ : S112), (⟨false, 1, (⟨#[]⟩ : ByteArray)⟩ : S112)] : List (S112)))).bind fun bt187 => ((seal_Seal.f k bt187.1).bind fun bt191 => (some (bt191.1, bt191.2)))) else ((pack_Items.f k (([(⟨false, a0_0, (⟨#[]⟩ : ByteArray)⟩ : S112), (⟨false, a0_1, (⟨#[]⟩ : ByteArray)⟩ : S112), (⟨false, a0_2, (⟨#[]⟩ : ByteArray)⟩ : S112), (⟨true, 0, a0_3⟩ : S112), (⟨false, a0_4, (⟨#[]⟩ : ByteArray)⟩ : S112), (⟨false, 0, (⟨#[]⟩ : ByteArray)⟩ : S112)] : List (S112)))).bind fun bt198 => ((seal_Seal.f k bt198.1).bind fun bt202 => (some (bt202.1, bt202.2))))) else (some (([] : List Int), 1))) = some (r1, r2) := H
 have A2 := Aside0.mk A20
 clear A20
 by_cases c3 : t182 = true
 ·subst c3
  have H1 : (if a0_5 = true then ((pack_Items.f k (([(⟨false, a0_0, (⟨#[]⟩ : ByteArray)⟩ : S112), (⟨false, a0_1, (⟨#[]⟩ : ByteArray)⟩ : S112), (⟨false, a0_2, (⟨#[]⟩ : ByteArray)⟩ : S112), (⟨true, 0, a0_3⟩ : S112), (⟨false, a0_4, (⟨#[]⟩ : ByteArray)⟩ : S112), (⟨false, 1, (⟨#[]⟩ : ByteArray)⟩ : S112)] : List (S112)))).bind fun bt187 => ((seal_Seal.f k bt187.1).bind fun bt191 => (some (bt191.1, bt191.2)))) else ((pack_Items.f k (([(⟨false, a0_0, (⟨#[]⟩ : ByteArray)⟩ : S112), (⟨false, a0_1, (⟨#[]⟩ : ByteArray)⟩ : S112), (⟨false, a0_2, (⟨#[]⟩ : ByteArray)⟩ : S112), (⟨true, 0, a0_3⟩ : S112), (⟨false, a0_4, (⟨#[]⟩ : ByteArray)⟩ : S112), (⟨false, 0, (⟨#[]⟩ : ByteArray)⟩ : S112)] : List (S112)))).bind fun bt198 => ((seal_Seal.f k bt198.1).bind fun bt202 => (some (bt202.1, bt202.2))))) = some (r1, r2) := by rw [if_pos rfl] at H; exact H
  clear H
  have H := H1
  clear H1
  by_cases c4 : a0_5 = true
  ·subst c4
   have H1 : ((pack_Items.f k (([(⟨false, a0_0, (⟨#[]⟩ : ByteArray)⟩ : S112), (⟨false, a0_1, (⟨#[]⟩ : ByteArray)⟩ : S112), (⟨false, a0_2, (⟨#[]⟩ : ByteArray)⟩ : S112), (⟨true, 0, a0_3⟩ : S112), (⟨false, a0_4, (⟨#[]⟩ : ByteArray)⟩ : S112), (⟨false, 1, (⟨#[]⟩ : ByteArray)⟩ : S112)] : List (S112)))).bind fun bt187 => ((seal_Seal.f k bt187.1).bind fun bt191 => (some (bt191.1, bt191.2)))) = some (r1, r2) := by rw [if_pos rfl] at H; exact H
   clear H
   have H := H1
   clear H1
   obtain ⟨y184, hy184⟩ : ∃ y_ : List (S112), y_ = (([(⟨false, a0_0, (⟨#[]⟩ : ByteArray)⟩ : S112), (⟨false, a0_1, (⟨#[]⟩ : ByteArray)⟩ : S112), (⟨false, a0_2, (⟨#[]⟩ : ByteArray)⟩ : S112), (⟨true, 0, a0_3⟩ : S112), (⟨false, a0_4, (⟨#[]⟩ : ByteArray)⟩ : S112), (⟨false, 1, (⟨#[]⟩ : ByteArray)⟩ : S112)] : List (S112))) := ⟨_, rfl⟩
   replace H : ((pack_Items.f k y184).bind fun bt187 => ((seal_Seal.f k bt187.1).bind fun bt191 => (some (bt191.1, bt191.2)))) = some (r1, r2) := by first | (rw [hy184]; with_reducible exact H) | (have H2_ := (Option.bind_some _ _).symm.trans H; rw [hy184]; with_reducible exact H2_) | (have H2_ := (Option.bind_some _ _).symm.trans H; with_reducible exact H2_) | with_reducible exact H | (rw [hy184]; exact H) | exact H
   have Ny184 := Aside0.mk hy184
   clear hy184
   replace H := Option.bind_eq_some_iff.mp H
   obtain ⟨⟨t187, t188⟩, A50, H⟩ := H
   replace H : ((seal_Seal.f k t187).bind fun bt191 => (some (bt191.1, bt191.2))) = some (r1, r2) := H
   have A5 := Aside0.mk A50
   clear A50
   replace H := Option.bind_eq_some_iff.mp H
   obtain ⟨⟨t191, t192⟩, A60, H⟩ := H
   replace H : (some (t191, t192)) = some (r1, r2) := H
   have A6 := Aside0.mk A60
   clear A60
   simp only [Option.some.injEq, Prod.mk.injEq] at H
   obtain ⟨rfl, rfl⟩ := H
   go_enter Try.func34, Try.ntmps34
   go_wp2_with (first | ((with_reducible refine gate_dst (N := 1) rfl ?_); refine box_event ?hg (N := 1) ?hd (cs := #[.int .i64 a0_0, .int .i64 a0_1, .int .i64 a0_2, .string a0_3, .int .i64 a0_4, .bool true]) (t := 28) ?hr ?_; (case hd => rfl); (case hg => rfl); (case hr => first | (go_simp; done) | (go_simp; rfl)); intro gb181 hg w7 hbox hb; have n0_ := Aside0.mk (below_step kz3_1 hb); have n1_ := Aside0.mk (hbox); have n2_ := Aside0.mk ((by rw [hg]; exact (below_size kz3_1) : w.heap.size ≤ gb181)); have n3_ := Aside0.mk ((by rw [hg]; exact (below_size kz3_1) : w.heap.size ≤ gb181)); clear HB; have HB := n0_; have BK181 := n1_; have GW181 := n2_; have GE181 := n3_; clear n0_ n1_ n2_ n3_; clear hb hbox hg; have hcz8_0 : w7.cell? ⟨gb181, 0, none⟩ = some (.int .i64 a0_0) := (blk_cell BK181.out 0).trans rfl; have hcz8_1 : w7.cell? ⟨gb181, 1, none⟩ = some (.int .i64 a0_1) := (blk_cell BK181.out 1).trans rfl; have hcz8_2 : w7.cell? ⟨gb181, 2, none⟩ = some (.int .i64 a0_2) := (blk_cell BK181.out 2).trans rfl; have hcz8_3 : w7.cell? ⟨gb181, 3, none⟩ = some (.string a0_3) := (blk_cell BK181.out 3).trans rfl; have hcz8_4 : w7.cell? ⟨gb181, 4, none⟩ = some (.int .i64 a0_4) := (blk_cell BK181.out 4).trans rfl; have hcz8_5 : w7.cell? ⟨gb181, 5, none⟩ = some (.bool true) := (blk_cell BK181.out 5).trans rfl; have hfz8_0 := blk_frozen BK181.out 0; have hfz8_1 := blk_frozen BK181.out 1; have hfz8_2 := blk_frozen BK181.out 2; have hfz8_3 := blk_frozen BK181.out 3; have hfz8_4 := blk_frozen BK181.out 4; have hfz8_5 := blk_frozen BK181.out 5) | ((with_reducible refine gate_callee (f := 36) rfl ?_); refine goesL_ (some 8) rfl rfl Try.func36 (by kernel_rfl) rfl #[.agg #[.int .i64 a0_0, .int .i64 a0_1, .int .i64 a0_2, .string a0_3, .int .i64 a0_4, .bool true]] rfl kz3_3 ?_; (with_reducible refine (outbox_Formed.calls a0_0 a0_1 a0_2 a0_3 a0_4 true true _ A2.out).mono ?_); rintro e w9 ⟨rfl, hb⟩; refine ⟨_, rfl, ?_⟩; have n0_ := Aside0.mk (blk_below (g := gb181) (o := .cells #[.int .i64 a0_0, .int .i64 a0_1, .int .i64 a0_2, .string a0_3, .int .i64 a0_4, .bool true] 28 (0, 0)) kz3_5 hb); have n1_ := Aside0.mk (below_step kz3_6 hb); clear BK181; clear HB; have BK181 := n0_; have HB := n1_; clear n0_ n1_; (try clear hb); (try clear hb2); (try clear hk); (try clear hi)) | ((with_reducible refine gate_dst (N := 4) rfl ?_); refine box_event ?hg (N := 4) ?hd (cs := #[.bool false, .int .i64 0, .string (⟨#[]⟩ : ByteArray)]) (t := 112) ?hr ?_; (case hd => rfl); (case hg => rfl); (case hr => first | (go_simp; done) | (go_simp; rfl)); intro gb183 hg w10 hbox hb; have n0_ := Aside0.mk (blk_below (g := gb181) (o := .cells #[.int .i64 a0_0, .int .i64 a0_1, .int .i64 a0_2, .string a0_3, .int .i64 a0_4, .bool true] 28 (0, 0)) kz3_5 hb); have n1_ := Aside0.mk (below_step kz3_6 hb); have n2_ := Aside0.mk (hbox); have n3_ := Aside0.mk ((by rw [hg]; exact (below_size kz3_6) : w.heap.size ≤ gb183)); have n4_ := Aside0.mk ((by rw [hg]; exact (below_size kz3_6) : w.heap.size ≤ gb183)); have n5_ := Aside0.mk ((by rw [hg]; exact Nat.ne_of_lt (blk_lt (g := gb181) (o := .cells #[.int .i64 a0_0, .int .i64 a0_1, .int .i64 a0_2, .string a0_3, .int .i64 a0_4, .bool true] 28 (0, 0)) kz3_5) : gb181 ≠ gb183)); have n6_ := Aside0.mk ((by rw [hg]; exact Nat.ne_of_gt (blk_lt (g := gb181) (o := .cells #[.int .i64 a0_0, .int .i64 a0_1, .int .i64 a0_2, .string a0_3, .int .i64 a0_4, .bool true] 28 (0, 0)) kz3_5) : gb183 ≠ gb181)); clear BK181; clear HB; have BK181 := n0_; have HB := n1_; have BK183 := n2_; have GW183 := n3_; have GE183 := n4_; have NB181_183 := n5_; have NB183_181 := n6_; clear n0_ n1_ n2_ n3_ n4_ n5_ n6_; clear hb hbox hg; have hnb11 := NB183_181.out; have hnc11 := NB181_183.out; have hcz12_0 : w10.cell? ⟨gb183, 0, none⟩ = some (.bool false) := (blk_cell BK183.out 0).trans rfl; have hww_0 : ((((w10.setCell ⟨gb183, 0, none⟩ (.bool false)).setCell ⟨gb183, 1, none⟩ (.int .i64 0)).setCell ⟨gb183, 2, none⟩ (.string (⟨#[]⟩ : ByteArray))).setCell ⟨gb183, 1, none⟩ (.int .i64 1)).cell? ⟨gb183, 0, none⟩ = some (.bool false) := (blk_cell (blk_put (blk_put (blk_put (blk_put BK183.out 0 (.bool false) rfl) 1 (.int .i64 0) rfl) 2 (.string (⟨#[]⟩ : ByteArray)) rfl) 1 (.int .i64 1) rfl) 0).trans rfl; have hww_1 : ((((w10.setCell ⟨gb183, 0, none⟩ (.bool false)).setCell ⟨gb183, 1, none⟩ (.int .i64 0)).setCell ⟨gb183, 2, none⟩ (.string (⟨#[]⟩ : ByteArray))).setCell ⟨gb183, 1, none⟩ (.int .i64 1)).cell? ⟨gb183, 1, none⟩ = some (.int .i64 1) := (blk_cell (blk_put (blk_put (blk_put (blk_put BK183.out 0 (.bool false) rfl) 1 (.int .i64 0) rfl) 2 (.string (⟨#[]⟩ : ByteArray)) rfl) 1 (.int .i64 1) rfl) 1).trans rfl; have hww_2 : ((((w10.setCell ⟨gb183, 0, none⟩ (.bool false)).setCell ⟨gb183, 1, none⟩ (.int .i64 0)).setCell ⟨gb183, 2, none⟩ (.string (⟨#[]⟩ : ByteArray))).setCell ⟨gb183, 1, none⟩ (.int .i64 1)).cell? ⟨gb183, 2, none⟩ = some (.string (⟨#[]⟩ : ByteArray)) := (blk_cell (blk_put (blk_put (blk_put (blk_put BK183.out 0 (.bool false) rfl) 1 (.int .i64 0) rfl) 2 (.string (⟨#[]⟩ : ByteArray)) rfl) 1 (.int .i64 1) rfl) 2).trans rfl; have hcz12_1 : w10.cell? ⟨gb183, 1, none⟩ = some (.int .i64 0) := (blk_cell BK183.out 1).trans rfl; have hcz12_2 : w10.cell? ⟨gb183, 2, none⟩ = some (.string (⟨#[]⟩ : ByteArray)) := (blk_cell BK183.out 2).trans rfl; have hfz12_0 := blk_frozen BK183.out 0; have hfz12_1 := blk_frozen BK183.out 1; have hfz12_2 := blk_frozen BK183.out 2; have hcz13_0 : w10.cell? ⟨gb181, 0, none⟩ = some (.int .i64 a0_0) := (blk_cell BK181.out 0).trans rfl; have hcz13_1 : w10.cell? ⟨gb181, 1, none⟩ = some (.int .i64 a0_1) := (blk_cell BK181.out 1).trans rfl; have hcz13_2 : w10.cell? ⟨gb181, 2, none⟩ = some (.int .i64 a0_2) := (blk_cell BK181.out 2).trans rfl; have hcz13_3 : w10.cell? ⟨gb181, 3, none⟩ = some (.string a0_3) := (blk_cell BK181.out 3).trans rfl; have hcz13_4 : w10.cell? ⟨gb181, 4, none⟩ = some (.int .i64 a0_4) := (blk_cell BK181.out 4).trans rfl; have hcz13_5 : w10.cell? ⟨gb181, 5, none⟩ = some (.bool true) := (blk_cell BK181.out 5).trans rfl; have hfz13_0 := blk_frozen BK181.out 0; have hfz13_1 := blk_frozen BK181.out 1; have hfz13_2 := blk_frozen BK181.out 2; have hfz13_3 := blk_frozen BK181.out 3; have hfz13_4 := blk_frozen BK181.out 4; have hfz13_5 := blk_frozen BK181.out 5) | ((with_reducible refine gate_dst (N := 31) rfl ?_); refine Kd.R_lit k112 _ 112 ?hg (N := 31) ?hd (xs := ([(⟨false, a0_0, (⟨#[]⟩ : ByteArray)⟩ : S112), (⟨false, a0_1, (⟨#[]⟩ : ByteArray)⟩ : S112), (⟨false, a0_2, (⟨#[]⟩ : ByteArray)⟩ : S112), (⟨true, 0, a0_3⟩ : S112), (⟨false, a0_4, (⟨#[]⟩ : ByteArray)⟩ : S112), (⟨false, 1, (⟨#[]⟩ : ByteArray)⟩ : S112)] : List (S112))) (inner := [.bool false, .int .i64 a0_0, .string (⟨#[]⟩ : ByteArray), .bool false, .int .i64 a0_1, .string (⟨#[]⟩ : ByteArray), .bool false, .int .i64 a0_2, .string (⟨#[]⟩ : ByteArray), .bool true, .int .i64 0, .string a0_3, .bool false, .int .i64 a0_4, .string (⟨#[]⟩ : ByteArray), .bool false, .int .i64 1, .string (⟨#[]⟩ : ByteArray)]) (ok := fun _ => True) (okp := fun _ => True) ?hr ?hp (fun _ hk => hk) trivial (Below.refl _ _) (Nat.le_refl _) (by simp) ?_; (case hd => rfl); (case hg => rfl); (case hr => first | (go_simp; done) | (go_simp; rfl)); (case hp => exact (Reps.c3 (show Kd.M k112 _ _ _ (⟨false, a0_0, (⟨#[]⟩ : ByteArray)⟩ : S112) [.bool false, .int .i64 a0_0, .string (⟨#[]⟩ : ByteArray)] from (k112_mkM _ _ _ (⟨false, a0_0, (⟨#[]⟩ : ByteArray)⟩ : S112) )) (Reps.c3 (show Kd.M k112 _ _ _ (⟨false, a0_1, (⟨#[]⟩ : ByteArray)⟩ : S112) [.bool false, .int .i64 a0_1, .string (⟨#[]⟩ : ByteArray)] from (k112_mkM _ _ _ (⟨false, a0_1, (⟨#[]⟩ : ByteArray)⟩ : S112) )) (Reps.c3 (show Kd.M k112 _ _ _ (⟨false, a0_2, (⟨#[]⟩ : ByteArray)⟩ : S112) [.bool false, .int .i64 a0_2, .string (⟨#[]⟩ : ByteArray)] from (k112_mkM _ _ _ (⟨false, a0_2, (⟨#[]⟩ : ByteArray)⟩ : S112) )) (Reps.c3 (show Kd.M k112 _ _ _ (⟨true, 0, a0_3⟩ : S112) [.bool true, .int .i64 0, .string a0_3] from (k112_mkM _ _ _ (⟨true, 0, a0_3⟩ : S112) )) (Reps.c3 (show Kd.M k112 _ _ _ (⟨false, a0_4, (⟨#[]⟩ : ByteArray)⟩ : S112) [.bool false, .int .i64 a0_4, .string (⟨#[]⟩ : ByteArray)] from (k112_mkM _ _ _ (⟨false, a0_4, (⟨#[]⟩ : ByteArray)⟩ : S112) )) (Reps.c3 (show Kd.M k112 _ _ _ (⟨false, 1, (⟨#[]⟩ : ByteArray)⟩ : S112) [.bool false, .int .i64 1, .string (⟨#[]⟩ : ByteArray)] from (k112_mkM _ _ _ (⟨false, 1, (⟨#[]⟩ : ByteArray)⟩ : S112) )) (Reps.none _ _)))))))); intro v185 w14 ho15 hb hg_ hnew_; clear hg_ hnew_; (first | rw [← Ny184.out] at ho15 | (simp only [Int.reduceToNat] at ho15; rw [← Ny184.out] at ho15)); have n0_ := Aside0.mk (Kd.R_lower (Kd.R_newB ho15 (g := gb183) (o := .cells #[.bool false, .int .i64 1, .string (⟨#[]⟩ : ByteArray)] 112 (0, 0)) kz3_7) (below_size kz3_2)); have n1_ := Aside0.mk (blk_below (g := gb181) (o := .cells #[.int .i64 a0_0, .int .i64 a0_1, .int .i64 a0_2, .string a0_3, .int .i64 a0_4, .bool true] 28 (0, 0)) (by (with_reducible repeat (first | refine blk_drewN ?_ _ | refine blk_drew ?_ | refine blk_alloc ?_ _)); refine blk_far ?_ NB181_183.out _; (with_reducible repeat (first | refine blk_drewN ?_ _ | refine blk_drew ?_ | refine blk_alloc ?_ _)); refine blk_far ?_ NB181_183.out _; (with_reducible repeat (first | refine blk_drewN ?_ _ | refine blk_drew ?_ | refine blk_alloc ?_ _)); refine blk_far ?_ NB181_183.out _; (with_reducible repeat (first | refine blk_drewN ?_ _ | refine blk_drew ?_ | refine blk_alloc ?_ _)); refine blk_far ?_ NB181_183.out _; (with_reducible repeat (first | refine blk_drewN ?_ _ | refine blk_drew ?_ | refine blk_alloc ?_ _)); exact BK181.out) hb); have n2_ := Aside0.mk (blk_below (g := gb183) (o := .cells #[.bool false, .int .i64 1, .string (⟨#[]⟩ : ByteArray)] 112 (0, 0)) kz3_7 hb); have n3_ := Aside0.mk (below_step kz3_2 hb); clear BK181; clear BK183; clear HB; have HO186 := n0_; have BK181 := n1_; have BK183 := n2_; have HB := n3_; clear n0_ n1_ n2_ n3_; clear hb ho15; obtain ⟨Ao16, co16, eo16⟩ := Kd.R_slice HO186.out; subst eo16) | ((with_reducible refine gate_callee (f := 54) rfl ?_); refine goesL_ (some 32) rfl rfl Try.func54 (by kernel_rfl) rfl #[.slice Ao16 y184.length co16] rfl kz3_3 ?_; (with_reducible refine (pack_Items.calls k _ _ y184 t187 t188 _ ?side1 ?side2 A5.out).mono ?_); (case side1 => repeat (first | exact (Kd.R_reads' HO186.out).2.2 | (with_reducible refine Kd.C_alloc ?_ _) | (with_reducible refine Kd.C_drewN ?_ _) | (with_reducible refine Kd.C_drew ?_))); (case side2 => exact (Kd.R_reads' HO186.out).2.1); rintro e w17 ⟨v189, rfl, ho0, hb⟩; refine ⟨_, rfl, ?_⟩; have n0_ := Aside0.mk (Kd.R_below (by (with_reducible repeat (first | apply Kd.R_alloc | apply Kd.R_drewN | apply Kd.R_drew)); exact HO186.out) hb); have n1_ := Aside0.mk (Kd.R_lower ho0 (below_size kz3_2)); have n2_ := Aside0.mk (blk_below (g := gb181) (o := .cells #[.int .i64 a0_0, .int .i64 a0_1, .int .i64 a0_2, .string a0_3, .int .i64 a0_4, .bool true] 28 (0, 0)) kz3_5 hb); have n3_ := Aside0.mk (blk_below (g := gb183) (o := .cells #[.bool false, .int .i64 1, .string (⟨#[]⟩ : ByteArray)] 112 (0, 0)) kz3_10 hb); have n4_ := Aside0.mk (below_step kz3_2 hb); clear HO186; clear BK181; clear BK183; clear HB; have HO186 := n0_; have HO190 := n1_; have BK181 := n2_; have BK183 := n3_; have HB := n4_; clear n0_ n1_ n2_ n3_ n4_; (try clear hb); (try clear hb2); (try clear hk); (try clear hi); (try clear ho0); obtain ⟨Ao18, co18, eo18⟩ := Kd.R_slice HO190.out; subst eo18) | ((with_reducible refine gate_callee (f := 55) rfl ?_); refine goesL_ (some 36) rfl rfl Try.func55 (by kernel_rfl) rfl #[.slice Ao18 t187.length co18] rfl kz3_3 ?_; (with_reducible refine (seal_Seal.calls k _ _ t187 t191 t192 _ ?side1 ?side2 A6.out).mono ?_); (case side1 => repeat (first | exact (Kd.R_reads' HO190.out).2.2 | (with_reducible refine Kd.C_alloc ?_ _) | (with_reducible refine Kd.C_drewN ?_ _) | (with_reducible refine Kd.C_drew ?_))); (case side2 => exact (Kd.R_reads' HO190.out).2.1); rintro e w19 ⟨v193, rfl, ho0, hb⟩; refine ⟨_, rfl, ?_⟩; have n0_ := Aside0.mk (Kd.R_below (by (with_reducible repeat (first | apply Kd.R_alloc | apply Kd.R_drewN | apply Kd.R_drew)); exact HO186.out) hb); have n1_ := Aside0.mk (Kd.R_elder' (by (with_reducible repeat (first | apply Kd.R_alloc | apply Kd.R_drewN | apply Kd.R_drew)); exact HO190.out) (Kd.R_base ho0) hb); have n2_ := Aside0.mk (Kd.R_lower (Kd.R_new' ho0 (Kd.R_lt (by (with_reducible repeat (first | apply Kd.R_alloc | apply Kd.R_drewN | apply Kd.R_drew)); exact HO190.out))) (below_size kz3_2)); have n3_ := Aside0.mk (blk_below (g := gb181) (o := .cells #[.int .i64 a0_0, .int .i64 a0_1, .int .i64 a0_2, .string a0_3, .int .i64 a0_4, .bool true] 28 (0, 0)) kz3_5 hb); have n4_ := Aside0.mk (blk_below (g := gb183) (o := .cells #[.bool false, .int .i64 1, .string (⟨#[]⟩ : ByteArray)] 112 (0, 0)) kz3_10 hb); have n5_ := Aside0.mk (below_step kz3_2 hb); clear HO186; clear HO190; clear BK181; clear BK183; clear HB; have HO186 := n0_; have HO190 := n1_; have HO194 := n2_; have BK181 := n3_; have BK183 := n4_; have HB := n5_; clear n0_ n1_ n2_ n3_ n4_ n5_; (try clear hb); (try clear hb2); (try clear hk); (try clear hi); (try clear ho0)))
   go_ret2
   exact ⟨_, by first | rfl | (simp [errW_none, errW_some] <;> rfl) | (simp [*, errW_none, errW_some] <;> rfl), by (with_reducible repeat (first | apply Kd.R_alloc | apply Kd.R_drewN | apply Kd.R_drew)); exact Kd.R_mono HO194.out (fun _ hk => trivial), by repeat (first | (with_reducible first | exact HB.out | apply below_alloc | apply pw_below_drewN | apply below_drew1 | refine below_set ?_ GE181.out | refine below_set ?_ GE183.out) | exact HB.out)⟩
  ·replace c4 := Bool.eq_false_iff.mpr c4
   subst c4
   have H1 : ((pack_Items.f k (([(⟨false, a0_0, (⟨#[]⟩ : ByteArray)⟩ : S112), (⟨false, a0_1, (⟨#[]⟩ : ByteArray)⟩ : S112), (⟨false, a0_2, (⟨#[]⟩ : ByteArray)⟩ : S112), (⟨true, 0, a0_3⟩ : S112), (⟨false, a0_4, (⟨#[]⟩ : ByteArray)⟩ : S112), (⟨false, 0, (⟨#[]⟩ : ByteArray)⟩ : S112)] : List (S112)))).bind fun bt198 => ((seal_Seal.f k bt198.1).bind fun bt202 => (some (bt202.1, bt202.2)))) = some (r1, r2) := by rw [if_neg (show ¬ (false = true) by decide)] at H; exact H
   clear H
   have H := H1
   clear H1
   obtain ⟨y195, hy195⟩ : ∃ y_ : List (S112), y_ = (([(⟨false, a0_0, (⟨#[]⟩ : ByteArray)⟩ : S112), (⟨false, a0_1, (⟨#[]⟩ : ByteArray)⟩ : S112), (⟨false, a0_2, (⟨#[]⟩ : ByteArray)⟩ : S112), (⟨true, 0, a0_3⟩ : S112), (⟨false, a0_4, (⟨#[]⟩ : ByteArray)⟩ : S112), (⟨false, 0, (⟨#[]⟩ : ByteArray)⟩ : S112)] : List (S112))) := ⟨_, rfl⟩
   replace H : ((pack_Items.f k y195).bind fun bt198 => ((seal_Seal.f k bt198.1).bind fun bt202 => (some (bt202.1, bt202.2)))) = some (r1, r2) := by first | (rw [hy195]; with_reducible exact H) | (have H2_ := (Option.bind_some _ _).symm.trans H; rw [hy195]; with_reducible exact H2_) | (have H2_ := (Option.bind_some _ _).symm.trans H; with_reducible exact H2_) | with_reducible exact H | (rw [hy195]; exact H) | exact H
   have Ny195 := Aside0.mk hy195
   clear hy195
   replace H := Option.bind_eq_some_iff.mp H
   obtain ⟨⟨t198, t199⟩, A200, H⟩ := H
   replace H : ((seal_Seal.f k t198).bind fun bt202 => (some (bt202.1, bt202.2))) = some (r1, r2) := H
   have A20 := Aside0.mk A200
   clear A200
   replace H := Option.bind_eq_some_iff.mp H
   obtain ⟨⟨t202, t203⟩, A210, H⟩ := H
   replace H : (some (t202, t203)) = some (r1, r2) := H
   have A21 := Aside0.mk A210
   clear A210
   simp only [Option.some.injEq, Prod.mk.injEq] at H
   obtain ⟨rfl, rfl⟩ := H
   go_enter Try.func34, Try.ntmps34
   go_wp2_with (first | ((with_reducible refine gate_dst (N := 1) rfl ?_); refine box_event ?hg (N := 1) ?hd (cs := #[.int .i64 a0_0, .int .i64 a0_1, .int .i64 a0_2, .string a0_3, .int .i64 a0_4, .bool false]) (t := 28) ?hr ?_; (case hd => rfl); (case hg => rfl); (case hr => first | (go_simp; done) | (go_simp; rfl)); intro gb181 hg w22 hbox hb; have n0_ := Aside0.mk (below_step kz3_1 hb); have n1_ := Aside0.mk (hbox); have n2_ := Aside0.mk ((by rw [hg]; exact (below_size kz3_1) : w.heap.size ≤ gb181)); have n3_ := Aside0.mk ((by rw [hg]; exact (below_size kz3_1) : w.heap.size ≤ gb181)); clear HB; have HB := n0_; have BK181 := n1_; have GW181 := n2_; have GE181 := n3_; clear n0_ n1_ n2_ n3_; clear hb hbox hg; have hcz23_0 : w22.cell? ⟨gb181, 0, none⟩ = some (.int .i64 a0_0) := (blk_cell BK181.out 0).trans rfl; have hcz23_1 : w22.cell? ⟨gb181, 1, none⟩ = some (.int .i64 a0_1) := (blk_cell BK181.out 1).trans rfl; have hcz23_2 : w22.cell? ⟨gb181, 2, none⟩ = some (.int .i64 a0_2) := (blk_cell BK181.out 2).trans rfl; have hcz23_3 : w22.cell? ⟨gb181, 3, none⟩ = some (.string a0_3) := (blk_cell BK181.out 3).trans rfl; have hcz23_4 : w22.cell? ⟨gb181, 4, none⟩ = some (.int .i64 a0_4) := (blk_cell BK181.out 4).trans rfl; have hcz23_5 : w22.cell? ⟨gb181, 5, none⟩ = some (.bool false) := (blk_cell BK181.out 5).trans rfl; have hfz23_0 := blk_frozen BK181.out 0; have hfz23_1 := blk_frozen BK181.out 1; have hfz23_2 := blk_frozen BK181.out 2; have hfz23_3 := blk_frozen BK181.out 3; have hfz23_4 := blk_frozen BK181.out 4; have hfz23_5 := blk_frozen BK181.out 5) | ((with_reducible refine gate_callee (f := 36) rfl ?_); refine goesL_ (some 8) rfl rfl Try.func36 (by kernel_rfl) rfl #[.agg #[.int .i64 a0_0, .int .i64 a0_1, .int .i64 a0_2, .string a0_3, .int .i64 a0_4, .bool false]] rfl kz3_3 ?_; (with_reducible refine (outbox_Formed.calls a0_0 a0_1 a0_2 a0_3 a0_4 false true _ A2.out).mono ?_); rintro e w24 ⟨rfl, hb⟩; refine ⟨_, rfl, ?_⟩; have n0_ := Aside0.mk (blk_below (g := gb181) (o := .cells #[.int .i64 a0_0, .int .i64 a0_1, .int .i64 a0_2, .string a0_3, .int .i64 a0_4, .bool false] 28 (0, 0)) kz3_5 hb); have n1_ := Aside0.mk (below_step kz3_6 hb); clear BK181; clear HB; have BK181 := n0_; have HB := n1_; clear n0_ n1_; (try clear hb); (try clear hb2); (try clear hk); (try clear hi)) | ((with_reducible refine gate_dst (N := 4) rfl ?_); refine box_event ?hg (N := 4) ?hd (cs := #[.bool false, .int .i64 0, .string (⟨#[]⟩ : ByteArray)]) (t := 112) ?hr ?_; (case hd => rfl); (case hg => rfl); (case hr => first | (go_simp; done) | (go_simp; rfl)); intro gb183 hg w25 hbox hb; have n0_ := Aside0.mk (blk_below (g := gb181) (o := .cells #[.int .i64 a0_0, .int .i64 a0_1, .int .i64 a0_2, .string a0_3, .int .i64 a0_4, .bool false] 28 (0, 0)) kz3_5 hb); have n1_ := Aside0.mk (below_step kz3_6 hb); have n2_ := Aside0.mk (hbox); have n3_ := Aside0.mk ((by rw [hg]; exact (below_size kz3_6) : w.heap.size ≤ gb183)); have n4_ := Aside0.mk ((by rw [hg]; exact (below_size kz3_6) : w.heap.size ≤ gb183)); have n5_ := Aside0.mk ((by rw [hg]; exact Nat.ne_of_lt (blk_lt (g := gb181) (o := .cells #[.int .i64 a0_0, .int .i64 a0_1, .int .i64 a0_2, .string a0_3, .int .i64 a0_4, .bool false] 28 (0, 0)) kz3_5) : gb181 ≠ gb183)); have n6_ := Aside0.mk ((by rw [hg]; exact Nat.ne_of_gt (blk_lt (g := gb181) (o := .cells #[.int .i64 a0_0, .int .i64 a0_1, .int .i64 a0_2, .string a0_3, .int .i64 a0_4, .bool false] 28 (0, 0)) kz3_5) : gb183 ≠ gb181)); clear BK181; clear HB; have BK181 := n0_; have HB := n1_; have BK183 := n2_; have GW183 := n3_; have GE183 := n4_; have NB181_183 := n5_; have NB183_181 := n6_; clear n0_ n1_ n2_ n3_ n4_ n5_ n6_; clear hb hbox hg; have hnb26 := NB183_181.out; have hnc26 := NB181_183.out; have hcz27_0 : w25.cell? ⟨gb183, 0, none⟩ = some (.bool false) := (blk_cell BK183.out 0).trans rfl; have hww_0 : ((((w25.setCell ⟨gb183, 0, none⟩ (.bool false)).setCell ⟨gb183, 1, none⟩ (.int .i64 0)).setCell ⟨gb183, 2, none⟩ (.string (⟨#[]⟩ : ByteArray))).setCell ⟨gb183, 1, none⟩ (.int .i64 1)).cell? ⟨gb183, 0, none⟩ = some (.bool false) := (blk_cell (blk_put (blk_put (blk_put (blk_put BK183.out 0 (.bool false) rfl) 1 (.int .i64 0) rfl) 2 (.string (⟨#[]⟩ : ByteArray)) rfl) 1 (.int .i64 1) rfl) 0).trans rfl; have hww_1 : ((((w25.setCell ⟨gb183, 0, none⟩ (.bool false)).setCell ⟨gb183, 1, none⟩ (.int .i64 0)).setCell ⟨gb183, 2, none⟩ (.string (⟨#[]⟩ : ByteArray))).setCell ⟨gb183, 1, none⟩ (.int .i64 1)).cell? ⟨gb183, 1, none⟩ = some (.int .i64 1) := (blk_cell (blk_put (blk_put (blk_put (blk_put BK183.out 0 (.bool false) rfl) 1 (.int .i64 0) rfl) 2 (.string (⟨#[]⟩ : ByteArray)) rfl) 1 (.int .i64 1) rfl) 1).trans rfl; have hww_2 : ((((w25.setCell ⟨gb183, 0, none⟩ (.bool false)).setCell ⟨gb183, 1, none⟩ (.int .i64 0)).setCell ⟨gb183, 2, none⟩ (.string (⟨#[]⟩ : ByteArray))).setCell ⟨gb183, 1, none⟩ (.int .i64 1)).cell? ⟨gb183, 2, none⟩ = some (.string (⟨#[]⟩ : ByteArray)) := (blk_cell (blk_put (blk_put (blk_put (blk_put BK183.out 0 (.bool false) rfl) 1 (.int .i64 0) rfl) 2 (.string (⟨#[]⟩ : ByteArray)) rfl) 1 (.int .i64 1) rfl) 2).trans rfl; have hcz27_1 : w25.cell? ⟨gb183, 1, none⟩ = some (.int .i64 0) := (blk_cell BK183.out 1).trans rfl; have hcz27_2 : w25.cell? ⟨gb183, 2, none⟩ = some (.string (⟨#[]⟩ : ByteArray)) := (blk_cell BK183.out 2).trans rfl; have hfz27_0 := blk_frozen BK183.out 0; have hfz27_1 := blk_frozen BK183.out 1; have hfz27_2 := blk_frozen BK183.out 2; have hcz28_0 : w25.cell? ⟨gb181, 0, none⟩ = some (.int .i64 a0_0) := (blk_cell BK181.out 0).trans rfl; have hcz28_1 : w25.cell? ⟨gb181, 1, none⟩ = some (.int .i64 a0_1) := (blk_cell BK181.out 1).trans rfl; have hcz28_2 : w25.cell? ⟨gb181, 2, none⟩ = some (.int .i64 a0_2) := (blk_cell BK181.out 2).trans rfl; have hcz28_3 : w25.cell? ⟨gb181, 3, none⟩ = some (.string a0_3) := (blk_cell BK181.out 3).trans rfl; have hcz28_4 : w25.cell? ⟨gb181, 4, none⟩ = some (.int .i64 a0_4) := (blk_cell BK181.out 4).trans rfl; have hcz28_5 : w25.cell? ⟨gb181, 5, none⟩ = some (.bool false) := (blk_cell BK181.out 5).trans rfl; have hfz28_0 := blk_frozen BK181.out 0; have hfz28_1 := blk_frozen BK181.out 1; have hfz28_2 := blk_frozen BK181.out 2; have hfz28_3 := blk_frozen BK181.out 3; have hfz28_4 := blk_frozen BK181.out 4; have hfz28_5 := blk_frozen BK181.out 5) | ((with_reducible refine gate_dst (N := 31) rfl ?_); refine Kd.R_lit k112 _ 112 ?hg (N := 31) ?hd (xs := ([(⟨false, a0_0, (⟨#[]⟩ : ByteArray)⟩ : S112), (⟨false, a0_1, (⟨#[]⟩ : ByteArray)⟩ : S112), (⟨false, a0_2, (⟨#[]⟩ : ByteArray)⟩ : S112), (⟨true, 0, a0_3⟩ : S112), (⟨false, a0_4, (⟨#[]⟩ : ByteArray)⟩ : S112), (⟨false, 0, (⟨#[]⟩ : ByteArray)⟩ : S112)] : List (S112))) (inner := [.bool false, .int .i64 a0_0, .string (⟨#[]⟩ : ByteArray), .bool false, .int .i64 a0_1, .string (⟨#[]⟩ : ByteArray), .bool false, .int .i64 a0_2, .string (⟨#[]⟩ : ByteArray), .bool true, .int .i64 0, .string a0_3, .bool false, .int .i64 a0_4, .string (⟨#[]⟩ : ByteArray), .bool false, .int .i64 0, .string (⟨#[]⟩ : ByteArray)]) (ok := fun _ => True) (okp := fun _ => True) ?hr ?hp (fun _ hk => hk) trivial (Below.refl _ _) (Nat.le_refl _) (by simp) ?_; (case hd => rfl); (case hg => rfl); (case hr => first | (go_simp; done) | (go_simp; rfl)); (case hp => exact (Reps.c3 (show Kd.M k112 _ _ _ (⟨false, a0_0, (⟨#[]⟩ : ByteArray)⟩ : S112) [.bool false, .int .i64 a0_0, .string (⟨#[]⟩ : ByteArray)] from (k112_mkM _ _ _ (⟨false, a0_0, (⟨#[]⟩ : ByteArray)⟩ : S112) )) (Reps.c3 (show Kd.M k112 _ _ _ (⟨false, a0_1, (⟨#[]⟩ : ByteArray)⟩ : S112) [.bool false, .int .i64 a0_1, .string (⟨#[]⟩ : ByteArray)] from (k112_mkM _ _ _ (⟨false, a0_1, (⟨#[]⟩ : ByteArray)⟩ : S112) )) (Reps.c3 (show Kd.M k112 _ _ _ (⟨false, a0_2, (⟨#[]⟩ : ByteArray)⟩ : S112) [.bool false, .int .i64 a0_2, .string (⟨#[]⟩ : ByteArray)] from (k112_mkM _ _ _ (⟨false, a0_2, (⟨#[]⟩ : ByteArray)⟩ : S112) )) (Reps.c3 (show Kd.M k112 _ _ _ (⟨true, 0, a0_3⟩ : S112) [.bool true, .int .i64 0, .string a0_3] from (k112_mkM _ _ _ (⟨true, 0, a0_3⟩ : S112) )) (Reps.c3 (show Kd.M k112 _ _ _ (⟨false, a0_4, (⟨#[]⟩ : ByteArray)⟩ : S112) [.bool false, .int .i64 a0_4, .string (⟨#[]⟩ : ByteArray)] from (k112_mkM _ _ _ (⟨false, a0_4, (⟨#[]⟩ : ByteArray)⟩ : S112) )) (Reps.c3 (show Kd.M k112 _ _ _ (⟨false, 0, (⟨#[]⟩ : ByteArray)⟩ : S112) [.bool false, .int .i64 0, .string (⟨#[]⟩ : ByteArray)] from (k112_mkM _ _ _ (⟨false, 0, (⟨#[]⟩ : ByteArray)⟩ : S112) )) (Reps.none _ _)))))))); intro v196 w29 ho30 hb hg_ hnew_; clear hg_ hnew_; (first | rw [← Ny195.out] at ho30 | (simp only [Int.reduceToNat] at ho30; rw [← Ny195.out] at ho30)); have n0_ := Aside0.mk (Kd.R_lower (Kd.R_newB ho30 (g := gb183) (o := .cells #[.bool false, .int .i64 0, .string (⟨#[]⟩ : ByteArray)] 112 (0, 0)) kz3_8) (below_size kz3_2)); have n1_ := Aside0.mk (blk_below (g := gb181) (o := .cells #[.int .i64 a0_0, .int .i64 a0_1, .int .i64 a0_2, .string a0_3, .int .i64 a0_4, .bool false] 28 (0, 0)) (by (with_reducible repeat (first | refine blk_drewN ?_ _ | refine blk_drew ?_ | refine blk_alloc ?_ _)); refine blk_far ?_ NB181_183.out _; (with_reducible repeat (first | refine blk_drewN ?_ _ | refine blk_drew ?_ | refine blk_alloc ?_ _)); refine blk_far ?_ NB181_183.out _; (with_reducible repeat (first | refine blk_drewN ?_ _ | refine blk_drew ?_ | refine blk_alloc ?_ _)); refine blk_far ?_ NB181_183.out _; (with_reducible repeat (first | refine blk_drewN ?_ _ | refine blk_drew ?_ | refine blk_alloc ?_ _)); exact BK181.out) hb); have n2_ := Aside0.mk (blk_below (g := gb183) (o := .cells #[.bool false, .int .i64 0, .string (⟨#[]⟩ : ByteArray)] 112 (0, 0)) kz3_8 hb); have n3_ := Aside0.mk (below_step kz3_2 hb); clear BK181; clear BK183; clear HB; have HO197 := n0_; have BK181 := n1_; have BK183 := n2_; have HB := n3_; clear n0_ n1_ n2_ n3_; clear hb ho30; obtain ⟨Ao31, co31, eo31⟩ := Kd.R_slice HO197.out; subst eo31) | ((with_reducible refine gate_callee (f := 54) rfl ?_); refine goesL_ (some 32) rfl rfl Try.func54 (by kernel_rfl) rfl #[.slice Ao31 y195.length co31] rfl kz3_3 ?_; (with_reducible refine (pack_Items.calls k _ _ y195 t198 t199 _ ?side1 ?side2 A20.out).mono ?_); (case side1 => repeat (first | exact (Kd.R_reads' HO197.out).2.2 | (with_reducible refine Kd.C_alloc ?_ _) | (with_reducible refine Kd.C_drewN ?_ _) | (with_reducible refine Kd.C_drew ?_))); (case side2 => exact (Kd.R_reads' HO197.out).2.1); rintro e w32 ⟨v200, rfl, ho0, hb⟩; refine ⟨_, rfl, ?_⟩; have n0_ := Aside0.mk (Kd.R_below (by (with_reducible repeat (first | apply Kd.R_alloc | apply Kd.R_drewN | apply Kd.R_drew)); exact HO197.out) hb); have n1_ := Aside0.mk (Kd.R_lower ho0 (below_size kz3_2)); have n2_ := Aside0.mk (blk_below (g := gb181) (o := .cells #[.int .i64 a0_0, .int .i64 a0_1, .int .i64 a0_2, .string a0_3, .int .i64 a0_4, .bool false] 28 (0, 0)) kz3_5 hb); have n3_ := Aside0.mk (blk_below (g := gb183) (o := .cells #[.bool false, .int .i64 0, .string (⟨#[]⟩ : ByteArray)] 112 (0, 0)) kz3_10 hb); have n4_ := Aside0.mk (below_step kz3_2 hb); clear HO197; clear BK181; clear BK183; clear HB; have HO197 := n0_; have HO201 := n1_; have BK181 := n2_; have BK183 := n3_; have HB := n4_; clear n0_ n1_ n2_ n3_ n4_; (try clear hb); (try clear hb2); (try clear hk); (try clear hi); (try clear ho0); obtain ⟨Ao33, co33, eo33⟩ := Kd.R_slice HO201.out; subst eo33) | ((with_reducible refine gate_callee (f := 55) rfl ?_); refine goesL_ (some 36) rfl rfl Try.func55 (by kernel_rfl) rfl #[.slice Ao33 t198.length co33] rfl kz3_3 ?_; (with_reducible refine (seal_Seal.calls k _ _ t198 t202 t203 _ ?side1 ?side2 A21.out).mono ?_); (case side1 => repeat (first | exact (Kd.R_reads' HO201.out).2.2 | (with_reducible refine Kd.C_alloc ?_ _) | (with_reducible refine Kd.C_drewN ?_ _) | (with_reducible refine Kd.C_drew ?_))); (case side2 => exact (Kd.R_reads' HO201.out).2.1); rintro e w34 ⟨v204, rfl, ho0, hb⟩; refine ⟨_, rfl, ?_⟩; have n0_ := Aside0.mk (Kd.R_below (by (with_reducible repeat (first | apply Kd.R_alloc | apply Kd.R_drewN | apply Kd.R_drew)); exact HO197.out) hb); have n1_ := Aside0.mk (Kd.R_elder' (by (with_reducible repeat (first | apply Kd.R_alloc | apply Kd.R_drewN | apply Kd.R_drew)); exact HO201.out) (Kd.R_base ho0) hb); have n2_ := Aside0.mk (Kd.R_lower (Kd.R_new' ho0 (Kd.R_lt (by (with_reducible repeat (first | apply Kd.R_alloc | apply Kd.R_drewN | apply Kd.R_drew)); exact HO201.out))) (below_size kz3_2)); have n3_ := Aside0.mk (blk_below (g := gb181) (o := .cells #[.int .i64 a0_0, .int .i64 a0_1, .int .i64 a0_2, .string a0_3, .int .i64 a0_4, .bool false] 28 (0, 0)) kz3_5 hb); have n4_ := Aside0.mk (blk_below (g := gb183) (o := .cells #[.bool false, .int .i64 0, .string (⟨#[]⟩ : ByteArray)] 112 (0, 0)) kz3_10 hb); have n5_ := Aside0.mk (below_step kz3_2 hb); clear HO197; clear HO201; clear BK181; clear BK183; clear HB; have HO197 := n0_; have HO201 := n1_; have HO205 := n2_; have BK181 := n3_; have BK183 := n4_; have HB := n5_; clear n0_ n1_ n2_ n3_ n4_ n5_; (try clear hb); (try clear hb2); (try clear hk); (try clear hi); (try clear ho0)))
   go_ret2
   exact ⟨_, by first | rfl | (simp [errW_none, errW_some] <;> rfl) | (simp [*, errW_none, errW_some] <;> rfl), by (with_reducible repeat (first | apply Kd.R_alloc | apply Kd.R_drewN | apply Kd.R_drew)); exact Kd.R_mono HO205.out (fun _ hk => trivial), by repeat (first | (with_reducible first | exact HB.out | apply below_alloc | apply pw_below_drewN | apply below_drew1 | refine below_set ?_ GE181.out | refine below_set ?_ GE183.out) | exact HB.out)⟩
 ·replace c3 := Bool.eq_false_iff.mpr c3
  subst c3
  have H1 : (some (([] : List Int), 1)) = some (r1, r2) := by rw [if_neg (show ¬ (false = true) by decide)] at H; exact H
  clear H
  have H := H1
  clear H1
  simp only [Option.some.injEq, Prod.mk.injEq] at H
  obtain ⟨rfl, rfl⟩ := H
  go_enter Try.func34, Try.ntmps34
  go_wp2_with (first | ((with_reducible refine gate_dst (N := 1) rfl ?_); refine box_event ?hg (N := 1) ?hd (cs := #[.int .i64 a0_0, .int .i64 a0_1, .int .i64 a0_2, .string a0_3, .int .i64 a0_4, .bool a0_5]) (t := 28) ?hr ?_; (case hd => rfl); (case hg => rfl); (case hr => first | (go_simp; done) | (go_simp; rfl)); intro gb181 hg w35 hbox hb; have n0_ := Aside0.mk (below_step kz3_1 hb); have n1_ := Aside0.mk (hbox); have n2_ := Aside0.mk ((by rw [hg]; exact (below_size kz3_1) : w.heap.size ≤ gb181)); have n3_ := Aside0.mk ((by rw [hg]; exact (below_size kz3_1) : w.heap.size ≤ gb181)); clear HB; have HB := n0_; have BK181 := n1_; have GW181 := n2_; have GE181 := n3_; clear n0_ n1_ n2_ n3_; clear hb hbox hg; have hcz36_0 : w35.cell? ⟨gb181, 0, none⟩ = some (.int .i64 a0_0) := (blk_cell BK181.out 0).trans rfl; have hcz36_1 : w35.cell? ⟨gb181, 1, none⟩ = some (.int .i64 a0_1) := (blk_cell BK181.out 1).trans rfl; have hcz36_2 : w35.cell? ⟨gb181, 2, none⟩ = some (.int .i64 a0_2) := (blk_cell BK181.out 2).trans rfl; have hcz36_3 : w35.cell? ⟨gb181, 3, none⟩ = some (.string a0_3) := (blk_cell BK181.out 3).trans rfl; have hcz36_4 : w35.cell? ⟨gb181, 4, none⟩ = some (.int .i64 a0_4) := (blk_cell BK181.out 4).trans rfl; have hcz36_5 : w35.cell? ⟨gb181, 5, none⟩ = some (.bool a0_5) := (blk_cell BK181.out 5).trans rfl; have hfz36_0 := blk_frozen BK181.out 0; have hfz36_1 := blk_frozen BK181.out 1; have hfz36_2 := blk_frozen BK181.out 2; have hfz36_3 := blk_frozen BK181.out 3; have hfz36_4 := blk_frozen BK181.out 4; have hfz36_5 := blk_frozen BK181.out 5) | ((with_reducible refine gate_callee (f := 36) rfl ?_); refine goesL_ (some 8) rfl rfl Try.func36 (by kernel_rfl) rfl #[.agg #[.int .i64 a0_0, .int .i64 a0_1, .int .i64 a0_2, .string a0_3, .int .i64 a0_4, .bool a0_5]] rfl kz3_3 ?_; (with_reducible refine (outbox_Formed.calls a0_0 a0_1 a0_2 a0_3 a0_4 a0_5 false _ A2.out).mono ?_); rintro e w37 ⟨rfl, hb⟩; refine ⟨_, rfl, ?_⟩; have n0_ := Aside0.mk (blk_below (g := gb181) (o := .cells #[.int .i64 a0_0, .int .i64 a0_1, .int .i64 a0_2, .string a0_3, .int .i64 a0_4, .bool a0_5] 28 (0, 0)) kz3_5 hb); have n1_ := Aside0.mk (below_step kz3_6 hb); clear BK181; clear HB; have BK181 := n0_; have HB := n1_; clear n0_ n1_; (try clear hb); (try clear hb2); (try clear hk); (try clear hi)))
  go_ret2
  exact ⟨_, by first | rfl | (simp [errW_none, errW_some] <;> rfl) | (simp [*, errW_none, errW_some] <;> rfl), by first | exact Kd.R_nil _ _ _ _ _ | exact Kd.N_nil _ _ _ _ _ | exact Kd.V_nil _ _ _ _ _ | exact Kd.Q_nil _ _ _ _ _ | exact Kd.S_nil _ _ _ _ _, by repeat (first | (with_reducible first | exact HB.out | apply below_alloc | apply pw_below_drewN | apply below_drew1 | refine below_set ?_ GE181.out) | exact HB.out)⟩

/-! ### tumbrellaw18_awake: function 22 -/
def tumbrellaw18_awake.f (k : Nat)  : Option (Bool) := (outbox_Encode.f k 1 0 0 (⟨#[]⟩ : ByteArray) 0 false).bind fun bt206 => (if bt206.2 = 0 then (if (bt206.1.length : Int) > 6 then ((outbox_Formed.f 1 0 0 (⟨#[]⟩ : ByteArray) 0 false).bind fun t210 => (some t210)) else (some false)) else (some false))
theorem tumbrellaw18_awake.mono : ∀ k, LeO (tumbrellaw18_awake.f k ) (tumbrellaw18_awake.f (k + 1) ) := by
 intro  k
 unfold tumbrellaw18_awake.f
 repeat' first
   | (with_reducible exact outbox_Encode.mono _ _ _ _ _ _ _)
   | (with_reducible exact LeO.refl _)
   | (with_reducible exact LeO.none _)
   | (with_reducible refine LeO.ite ?_ ?_)
   | (with_reducible refine LeO.bind ?_ (fun _ => ?_))
   | exact outbox_Encode.mono _ _ _ _ _ _ _
   | exact LeO.none _
   | refine LeO.ite ?_ ?_
   | refine LeO.bind ?_ (fun _ => ?_)
set_option maxHeartbeats 8000000 in
set_option maxRecDepth 100000 in
theorem tumbrellaw18_awake.calls (k : Nat)  (r : Bool) (w : World) (h : tumbrellaw18_awake.f k  = some r) :
  Calls Try.prog 22 #[] w fun e w' => e = .returned (.bool r) ∧ Below w.heap.size w w' := by
 have hu28 := Try.underlying28
 have HB := Aside0.mk (Below.refl w.heap.size w)
 have H : ((outbox_Encode.f k 1 0 0 (⟨#[]⟩ : ByteArray) 0 false).bind fun bt206 => (if bt206.2 = 0 then (if (bt206.1.length : Int) > 6 then ((outbox_Formed.f 1 0 0 (⟨#[]⟩ : ByteArray) 0 false).bind fun t210 => (some t210)) else (some false)) else (some false))) = some r := h
 clear h
 replace H := Option.bind_eq_some_iff.mp H
 obtain ⟨⟨t206, t209⟩, A10, H⟩ := H
 replace H : (if t209 = 0 then (if (t206.length : Int) > 6 then ((outbox_Formed.f 1 0 0 (⟨#[]⟩ : ByteArray) 0 false).bind fun t210 => (some t210)) else (some false)) else (some false)) = some r := H
 have A1 := Aside0.mk A10
 clear A10
 by_cases c2 : t209 = 0
 ·rw [if_pos c2] at H
  have c2b0 : (t209 == 0) = true := beq_iff_eq.mpr c2
  have c2b1 : (t209 != 0) = false := bne_eq_false_iff_eq.mpr c2
  clear c2
  by_cases c3 : (t206.length : Int) > 6
  ·rw [if_pos c3] at H
   have c3b0 : decide (6 < (t206.length : Int)) = true := decide_eq_true c3
   have c3b1 : decide (6 < t206.length) = true := decide_eq_true (by omega)
   clear c3
   replace H := Option.bind_eq_some_iff.mp H
   obtain ⟨t210, A40, H⟩ := H
   replace H : (some t210) = some r := H
   have A4 := Aside0.mk A40
   clear A40
   obtain rfl := Option.some.inj H
   go_enter Try.func22, Try.ntmps22
   go_wp2_with (first | ((with_reducible refine gate_callee (f := 34) rfl ?_); refine goesL_ (some 5) rfl rfl Try.func34 (by kernel_rfl) rfl #[.agg #[.int .i64 1, .int .i64 0, .int .i64 0, .string (⟨#[]⟩ : ByteArray), .int .i64 0, .bool false]] rfl kz3_3 ?_; (with_reducible refine (outbox_Encode.calls k 1 0 0 (⟨#[]⟩ : ByteArray) 0 false t206 t209 _ A1.out).mono ?_); rintro e w5 ⟨v207, rfl, ho0, hb⟩; refine ⟨_, rfl, ?_⟩; have n0_ := Aside0.mk (Kd.R_lower ho0 (below_size kz3_1)); have n1_ := Aside0.mk (below_step kz3_1 hb); clear HB; have HO208 := n0_; have HB := n1_; clear n0_ n1_; (try clear hb); (try clear hb2); (try clear hk); (try clear hi); (try clear ho0); obtain ⟨Ao6, co6, eo6⟩ := Kd.R_slice HO208.out; subst eo6) | (go_at_call 36; (with_reducible refine (outbox_Formed.calls 1 0 0 (⟨#[]⟩ : ByteArray) 0 false t210 _ A4.out).mono ?_); rintro e w7 ⟨rfl, hb⟩; have n0_ := Aside0.mk (Kd.R_below (by (with_reducible repeat (first | apply Kd.R_alloc | apply Kd.R_drewN | apply Kd.R_drew)); exact HO208.out) hb); have n1_ := Aside0.mk (below_step kz3_1 hb); clear HO208; clear HB; have HO208 := n0_; have HB := n1_; clear n0_ n1_; (try clear hb); (try clear hb2); (try clear hk); (try clear hi)))
   go_ret
   exact ⟨by first | rfl | (simp [errW_none, errW_some] <;> rfl) | (simp [*, errW_none, errW_some] <;> rfl), by repeat (first | (with_reducible first | exact HB.out | apply below_alloc | apply pw_below_drewN | apply below_drew1) | exact HB.out)⟩
  ·rw [if_neg c3] at H
   have c3b0 : decide (6 < (t206.length : Int)) = false := decide_eq_false c3
   have c3b1 : decide (6 < t206.length) = false := decide_eq_false (by omega)
   clear c3
   obtain rfl := Option.some.inj H
   go_enter Try.func22, Try.ntmps22
   go_wp2_with (first | ((with_reducible refine gate_callee (f := 34) rfl ?_); refine goesL_ (some 5) rfl rfl Try.func34 (by kernel_rfl) rfl #[.agg #[.int .i64 1, .int .i64 0, .int .i64 0, .string (⟨#[]⟩ : ByteArray), .int .i64 0, .bool false]] rfl kz3_3 ?_; (with_reducible refine (outbox_Encode.calls k 1 0 0 (⟨#[]⟩ : ByteArray) 0 false t206 t209 _ A1.out).mono ?_); rintro e w8 ⟨v207, rfl, ho0, hb⟩; refine ⟨_, rfl, ?_⟩; have n0_ := Aside0.mk (Kd.R_lower ho0 (below_size kz3_1)); have n1_ := Aside0.mk (below_step kz3_1 hb); clear HB; have HO208 := n0_; have HB := n1_; clear n0_ n1_; (try clear hb); (try clear hb2); (try clear hk); (try clear hi); (try clear ho0); obtain ⟨Ao9, co9, eo9⟩ := Kd.R_slice HO208.out; subst eo9))
   go_ret
   exact ⟨by first | rfl | (simp [errW_none, errW_some] <;> rfl) | (simp [*, errW_none, errW_some] <;> rfl), by repeat (first | (with_reducible first | exact HB.out | apply below_alloc | apply pw_below_drewN | apply below_drew1) | exact HB.out)⟩
 ·rw [if_neg c2] at H
  have c2b0 : (t209 == 0) = false := beq_eq_false_iff_ne.mpr c2
  have c2b1 : (t209 != 0) = true := bne_iff_ne.mpr c2
  obtain rfl := Option.some.inj H
  go_enter Try.func22, Try.ntmps22
  go_wp2_with (first | ((with_reducible refine gate_callee (f := 34) rfl ?_); refine goesL_ (some 5) rfl rfl Try.func34 (by kernel_rfl) rfl #[.agg #[.int .i64 1, .int .i64 0, .int .i64 0, .string (⟨#[]⟩ : ByteArray), .int .i64 0, .bool false]] rfl kz3_3 ?_; (with_reducible refine (outbox_Encode.calls k 1 0 0 (⟨#[]⟩ : ByteArray) 0 false t206 t209 _ A1.out).mono ?_); rintro e w10 ⟨v207, rfl, ho0, hb⟩; refine ⟨_, rfl, ?_⟩; have n0_ := Aside0.mk (Kd.R_lower ho0 (below_size kz3_1)); have n1_ := Aside0.mk (below_step kz3_1 hb); clear HB; have HO208 := n0_; have HB := n1_; clear n0_ n1_; (try clear hb); (try clear hb2); (try clear hk); (try clear hi); (try clear ho0)))
  go_ret
  exact ⟨by first | rfl | (simp [errW_none, errW_some] <;> rfl) | (simp [*, errW_none, errW_some] <;> rfl), by repeat (first | (with_reducible first | exact HB.out | apply below_alloc | apply pw_below_drewN | apply below_drew1) | exact HB.out)⟩

/-! ### seal_of: function 75 -/
def seal_of.f (l0 : List Int) : Option (Int) := if 0 < (l0.length : Int) then (if 1 < (l0.length : Int) then (some (Go.bits .or .u16 (IntKind.u16.wrap ((IntKind.u16.wrap (rd l0 0)) * 256)) (IntKind.u16.wrap (rd l0 1)))) else (none)) else (none)
set_option maxHeartbeats 8000000 in
set_option maxRecDepth 100000 in
theorem seal_of.calls (A0 : Option Addr) (c0 : Nat) (l0 : List Int) (r : Int) (w : World) (hr0 : Kd.C (Kd.int .u8) w A0 l0.length l0) (hc0 : l0.length ≤ c0) (h : seal_of.f l0 = some r) :
  Calls Try.prog 75 #[.slice A0 l0.length c0] w fun e w' => e = .returned (.int .u16 r) ∧ Drawn0 w w' := by
 have HR0 := Aside0.mk hr0
 have HC0 := Aside0.mk hc0
 clear hr0 hc0
 have H : (if 0 < (l0.length : Int) then (if 1 < (l0.length : Int) then (some (Go.bits .or .u16 (IntKind.u16.wrap ((IntKind.u16.wrap (rd l0 0)) * 256)) (IntKind.u16.wrap (rd l0 1)))) else (none)) else (none)) = some r := h
 clear h
 by_cases c2 : 0 < (l0.length : Int)
 ·rw [if_pos c2] at H
  have c2b0 : decide (0 < (l0.length : Int)) = true := decide_eq_true c2
  have c2b1 : decide (0 < l0.length) = true := decide_eq_true (by omega)
  clear c2
  by_cases c3 : 1 < (l0.length : Int)
  ·rw [if_pos c3] at H
   have c3b0 : decide (1 < (l0.length : Int)) = true := decide_eq_true c3
   have c3b1 : decide (1 < l0.length) = true := decide_eq_true (by omega)
   clear c3
   obtain rfl := Option.some.inj H
   have p211 : 0 ≤ (0 : Int) := (by omega)
   have q211 : 0 < (l0.length : Int) := of_decide_eq_true kz3_4
   obtain ⟨ad211, e211, hx211_0⟩ := Kd.at_int HR0.out 0 p211 q211
   cases e211
   have qi211 : (0 < l0.length) = True := eq_true (by omega)
   (try rw [show ((0 : Int)).toNat = 0 from rfl] at hx211_0)
   (try rw [Addr.add_zero'] at hx211_0)
   replace p211 := eq_true p211
   replace q211 := eq_true q211
   have p212 : 0 ≤ (1 : Int) := (by omega)
   have q212 : 1 < (l0.length : Int) := of_decide_eq_true kz3_4
   obtain ⟨ad212, e212, hx212_0⟩ := Kd.at_int HR0.out 1 p212 q212
   obtain rfl : ad211 = ad212 := (by injection e212)
   (try simp only [show (1 : Int).toNat = 1 from rfl, Nat.reduceMul, Nat.reduceEqDiff, Go.Addr.add, ↓reduceIte] at hx212_0)
   have qi212 : (1 < l0.length) = True := eq_true (by omega)
   (try rw [show ((1 : Int)).toNat = 1 from rfl] at hx212_0)
   replace p212 := eq_true p212
   replace q212 := eq_true q212
   go_enter Try.func75, Try.ntmps75
   go_wp2
   repeat (go_quiet (fail); try go_wp2)
   go_ret
   exact ⟨by first | rfl | (simp; done) | (simp [*]; done), by repeat (first | exact Drawn0.refl _ | apply Drawn0.step)⟩
  ·rw [if_neg c3] at H
   exact absurd H (by simp)
 ·rw [if_neg c2] at H
  exact absurd H (by simp)

/-! ### slices_Clone_byte_byte: function 76 -/
def slices_Clone_byte_byte.f (l0 : List Int) : Option (List Int) := (some (([] : List Int) : List Int)).bind fun y213 => (if y213.length + l0.length < 140737488355328 then (some (y213 ++ l0)) else (none))
set_option maxHeartbeats 8000000 in
set_option maxRecDepth 100000 in
theorem slices_Clone_byte_byte.calls (A0 : Option Addr) (c0 : Nat) (l0 : List Int) (r : List Int) (w : World) (hr0 : Kd.C (Kd.int .u8) w A0 l0.length l0) (hc0 : l0.length ≤ c0) (h : slices_Clone_byte_byte.f l0 = some r) :
  Calls Try.prog 76 #[.slice A0 l0.length c0] w fun e w' => ∃ v0_ : Value, e = .returned (v0_) ∧ Kd.R (Kd.int .u8) 5 w' w.heap.size (fun _ => True) v0_ r ∧ Below w.heap.size w w' := by
 have hq : ∀ (W : World) (a : Option Addr) (n c n' c' : Nat), (binOp .eql 50 (.slice a n c) (.slice none n' c')).run Try.prog W = .ok (.bool a.isNone) W := fun W a n c n' c' => Lib.run_eql_slice_nil W _ _ a n c n' c' Try.underlying50
 by_cases hnil : A0 = none
 ·subst hnil
  have hl : l0 = [] := by
   rcases Nat.eq_zero_or_pos l0.length with h0 | h0
   ·exact List.eq_nil_of_length_eq_zero h0
   ·obtain ⟨ad, h_, _⟩ := hr0.2.2 h0
    cases h_
  subst hl
  obtain rfl : r = [] := by
   have h2 : slices_Clone_byte_byte.f [] = some [] := by rfl
   exact (Option.some.inj (h2.symm.trans h)).symm
  have HC := Aside0.mk hc0
  clear hc0 h hr0
  go_enter Try.func76, Try.ntmps76
  go_wp2
  go_ret
  exact ⟨_, rfl, Kd.R_nil _ _ _ _ _, Below.refl _ _⟩
 have hsome : A0.isNone = false := by
  cases A0 with
  | none => exact absurd rfl hnil
  | some _ => rfl
 clear hnil
 have HR0 := Aside0.mk hr0
 have HC0 := Aside0.mk hc0
 clear hr0 hc0
 have HB := Aside0.mk (Below.refl w.heap.size w)
 have H : ((some (([] : List Int) : List Int)).bind fun y213 => (if y213.length + l0.length < 140737488355328 then (some (y213 ++ l0)) else (none))) = some r := h
 clear h
 obtain ⟨y213, hy213⟩ : ∃ y_ : List Int, y_ = (([] : List Int)) := ⟨_, rfl⟩
 replace H : (if y213.length + l0.length < 140737488355328 then (some (y213 ++ l0)) else (none)) = some r := by first | (rw [hy213]; with_reducible exact H) | (have H2_ := (Option.bind_some _ _).symm.trans H; rw [hy213]; with_reducible exact H2_) | (have H2_ := (Option.bind_some _ _).symm.trans H; with_reducible exact H2_) | with_reducible exact H | (rw [hy213]; exact H) | exact H
 have Ny213 := Aside0.mk hy213
 clear hy213
 by_cases c2 : y213.length + l0.length < 140737488355328
 ·rw [if_pos c2] at H
  have LMc2 := Aside0.mk c2
  clear c2
  obtain ⟨y216, hy216⟩ : ∃ y_ : List Int, y_ = (y213 ++ l0) := ⟨_, rfl⟩
  replace H : (some y216) = some r := by first | (rw [hy216]; with_reducible exact H) | (have H2_ := (Option.bind_some _ _).symm.trans H; rw [hy216]; with_reducible exact H2_) | (have H2_ := (Option.bind_some _ _).symm.trans H; with_reducible exact H2_) | with_reducible exact H | (rw [hy216]; exact H) | exact H
  have Ny216 := Aside0.mk hy216
  clear hy216
  obtain rfl := Option.some.inj H
  go_enter Try.func76, Try.ntmps76
  go_wp2_with (first | ((with_reducible refine gate_dst (N := 5) rfl ?_); refine Kd.R_lit (Kd.int .u8) _ 5 ?hg (N := 5) ?hd (xs := ([] : List Int)) (inner := []) (ok := fun _ => True) (okp := fun _ => True) ?hr ?hp (fun _ hk => hk) trivial (Below.refl _ _) (Nat.le_refl _) (by simp) ?_; (case hd => rfl); (case hg => rfl); (case hr => first | (go_simp; done) | (go_simp; rfl)); (case hp => exact (Reps.none _ _)); intro v214 w3 ho4 hb hg_ hnew_; clear hg_ hnew_; (first | rw [← Ny213.out] at ho4 | (simp only [Int.reduceToNat] at ho4; rw [← Ny213.out] at ho4)); have n0_ := Aside0.mk (Kd.R_lower ho4 (below_size kz3_1)); have n1_ := Aside0.mk (below_step kz3_1 hb); clear HB; have HO215 := n0_; have HB := n1_; clear n0_ n1_; clear hb ho4) | ((with_reducible refine gate_builtin (b := .append) (xs := #[.tmp 5, .tmp 6]) rfl ?_); at_builtin; refine Kd.R_append_rows (Kd.int .u8) (w0 := w) w.heap.size rfl (.tmp 5) (.tmp 6) 50 5 (.int .u8 0) 1 rfl Try.underlying50 info5 rfl (by decide) (by omega) v214 y213 l0 _ _ _ (fun _ => True) (fun _ => False) rfl rfl ?aO ?aR (fun _ _ h => h) (fun _ h => h.elim) ?aF ?aB ?aS ?aL ?_; (case aR => repeat (first | exact (Kd.C_below HR0.out HB.out) | (with_reducible refine Kd.C_alloc ?_ _) | (with_reducible refine Kd.C_drewN ?_ _) | (with_reducible refine Kd.C_drew ?_))); (case aB => exact kz3_1); (case aF => exact (fun _ _ => trivial)); (case aO => exact (by (with_reducible repeat (first | apply Kd.R_alloc | apply Kd.R_drewN | apply Kd.R_drew)); exact HO215.out)); (case aS => exact (below_size kz3_1)); (case aL => have := LMc2.out; omega); intro v217 w5 ho hb hg hat; rw [← Ny216.out] at ho; have n0_ := Aside0.mk (hb); have n1_ := Aside0.mk (ho); clear HB; clear HO215; have HB := n0_; have HO218 := n1_; clear n0_ n1_; clear ho hb hg hat))
  go_ret
  exact ⟨_, by first | rfl | (simp [errW_none, errW_some] <;> rfl) | (simp [*, errW_none, errW_some] <;> rfl), by (with_reducible repeat (first | apply Kd.R_alloc | apply Kd.R_drewN | apply Kd.R_drew)); exact HO218.out, by repeat (first | (with_reducible first | exact HB.out | apply below_alloc | apply pw_below_drewN | apply below_drew1) | exact HB.out)⟩
 ·rw [if_neg c2] at H
  exact absurd H (by simp)

/-! ### seal_Open: function 59 -/
def seal_Open.j0 : Nat → List Int → Int → Bool → Option (List Int × Int × Int)
 | 0, _, _, _ => none
 | k + 1, x0, x5, x27 => if x27 = true then (some (([] : List Int), 0, 9)) else (if (x0.length : Int) < (wrap64 ((wrap64 (4 + x5)) + 2)) then (some (([] : List Int), 0, 5)) else (if 0 ≤ (wrap64 (4 + x5)) then (if (wrap64 (4 + x5)) ≤ (x0.length : Int) then ((seal_Sum.f k (x0.take ((wrap64 (4 + x5)) : Int).toNat)).bind fun t234 => ((seal_of.f (x0.drop ((wrap64 (4 + x5)) : Int).toNat)).bind fun t239 => (if t234 = t239 then (if 4 ≤ (wrap64 (4 + x5)) then ((slices_Clone_byte_byte.f ((x0.take ((wrap64 (4 + x5)) : Int).toNat).drop 4)).bind fun t244 => (some (t244, wrap64 ((wrap64 (4 + x5)) + 2), 0))) else (none)) else (some (([] : List Int), 0, 9))))) else (none)) else (none)))
def seal_Open.f (k : Nat) (l0 : List Int) : Option (List Int × Int × Int) := if (l0.length : Int) < 4 then (some (([] : List Int), 0, 5)) else ((seal_of.f l0).bind fun t219 => (if (wrap64 (t219)) = 0 then (seal_Open.j0 k l0 (wrap64 (t219)) true) else (if (wrap64 (t219)) > 14000 then (seal_Open.j0 k l0 (wrap64 (t219)) true) else (if 2 ≤ (l0.length : Int) then ((seal_Sum.f k (l0.take 2)).bind fun t224 => ((seal_of.f (l0.drop 2)).bind fun t229 => (seal_Open.j0 k l0 (wrap64 (t219)) (t224 != t229)))) else (none)))))
theorem seal_Open.mono_l : ∀ k, (∀ y0 y1 y2, LeO (seal_Open.j0 k y0 y1 y2) (seal_Open.j0 (k + 1) y0 y1 y2))
 | 0 => fun _ _ _ r h => by simp [seal_Open.j0] at h
 | k + 1 => by
  have ih0 := seal_Open.mono_l k
  ·intro y0 y1 y2
   unfold seal_Open.j0
   repeat' first
   | (with_reducible exact ih0 _ _ _)
   | (with_reducible exact seal_Sum.mono _ _)
   | (with_reducible exact LeO.refl _)
   | (with_reducible exact LeO.none _)
   | (with_reducible refine LeO.ite ?_ ?_)
   | (with_reducible refine LeO.bind ?_ (fun _ => ?_))
   | exact ih0 _ _ _
   | exact seal_Sum.mono _ _
   | exact LeO.none _
   | refine LeO.ite ?_ ?_
   | refine LeO.bind ?_ (fun _ => ?_)
theorem seal_Open.mono : ∀ a0 k, LeO (seal_Open.f k a0) (seal_Open.f (k + 1) a0) := by
 intro a0 k
 have ih0 := seal_Open.mono_l k
 unfold seal_Open.f
 repeat' first
   | (with_reducible exact ih0 _ _ _)
   | (with_reducible exact seal_Sum.mono _ _)
   | (with_reducible exact LeO.refl _)
   | (with_reducible exact LeO.none _)
   | (with_reducible refine LeO.ite ?_ ?_)
   | (with_reducible refine LeO.bind ?_ (fun _ => ?_))
   | exact ih0 _ _ _
   | exact seal_Sum.mono _ _
   | exact LeO.none _
   | refine LeO.ite ?_ ?_
   | refine LeO.bind ?_ (fun _ => ?_)
set_option maxHeartbeats 8000000 in
set_option maxRecDepth 100000 in
theorem seal_Open.calls (k : Nat) (A0 : Option Addr) (c0 : Nat) (l0 : List Int) (r1 : List Int) (r2 : Int) (r3 : Int) (w : World) (hr0 : Kd.C (Kd.int .u8) w A0 l0.length l0) (hc0 : l0.length ≤ c0) (h : seal_Open.f k l0 = some (r1, r2, r3)) :
  Calls Try.prog 59 #[.slice A0 l0.length c0] w fun e w' => ∃ v0_ : Value, e = .returned (.tuple #[v0_, .int .i64 r2, .int .i64 r3]) ∧ Kd.R (Kd.int .u8) 5 w' w.heap.size (fun _ => True) v0_ r1 ∧ Below w.heap.size w w' := by
 have HR0 := Aside0.mk hr0
 have HC0 := Aside0.mk hc0
 clear hr0 hc0
 have HB := Aside0.mk (Below.refl w.heap.size w)
 have H : (if (l0.length : Int) < 4 then (some (([] : List Int), 0, 5)) else ((seal_of.f l0).bind fun t219 => (if (wrap64 (t219)) = 0 then (seal_Open.j0 k l0 (wrap64 (t219)) true) else (if (wrap64 (t219)) > 14000 then (seal_Open.j0 k l0 (wrap64 (t219)) true) else (if 2 ≤ (l0.length : Int) then ((seal_Sum.f k (l0.take 2)).bind fun t224 => ((seal_of.f (l0.drop 2)).bind fun t229 => (seal_Open.j0 k l0 (wrap64 (t219)) (t224 != t229)))) else (none)))))) = some (r1, r2, r3) := h
 clear h
 by_cases c2 : (l0.length : Int) < 4
 ·rw [if_pos c2] at H
  have c2b0 : decide ((l0.length : Int) < 4) = true := decide_eq_true c2
  have c2b1 : decide (l0.length < 4) = true := decide_eq_true (by omega)
  clear c2
  simp only [Option.some.injEq, Prod.mk.injEq] at H
  obtain ⟨rfl, rfl, rfl⟩ := H
  go_enter Try.func59, Try.ntmps59
  go_wp2
  repeat (go_quiet (fail); try go_wp2)
  go_ret3
  exact ⟨_, by first | rfl | (simp [errW_none, errW_some] <;> rfl) | (simp [*, errW_none, errW_some] <;> rfl), by first | exact Kd.R_nil _ _ _ _ _ | exact Kd.N_nil _ _ _ _ _ | exact Kd.V_nil _ _ _ _ _ | exact Kd.Q_nil _ _ _ _ _ | exact Kd.S_nil _ _ _ _ _, by repeat (first | (with_reducible first | exact HB.out | apply below_alloc | apply pw_below_drewN | apply below_drew1) | exact HB.out)⟩
 ·rw [if_neg c2] at H
  have c2b0 : decide ((l0.length : Int) < 4) = false := decide_eq_false c2
  have c2b1 : decide (l0.length < 4) = false := decide_eq_false (by omega)
  clear c2
  replace H := Option.bind_eq_some_iff.mp H
  obtain ⟨t219, A30, H⟩ := H
  replace H : (if (wrap64 (t219)) = 0 then (seal_Open.j0 k l0 (wrap64 (t219)) true) else (if (wrap64 (t219)) > 14000 then (seal_Open.j0 k l0 (wrap64 (t219)) true) else (if 2 ≤ (l0.length : Int) then ((seal_Sum.f k (l0.take 2)).bind fun t224 => ((seal_of.f (l0.drop 2)).bind fun t229 => (seal_Open.j0 k l0 (wrap64 (t219)) (t224 != t229)))) else (none)))) = some (r1, r2, r3) := H
  have A3 := Aside0.mk A30
  clear A30
  have HC4 := Aside0.mk H
  clear H
  go_enter Try.func59, Try.ntmps59
  go_upto_region 4 with (first | (go_at_call 75; (with_reducible refine (seal_of.calls _ _ l0 t219 _ ?side1 ?side2 A3.out).mono ?_); (case side1 => repeat (first | exact HR0.out | (with_reducible refine Kd.C_alloc ?_ _) | (with_reducible refine Kd.C_drewN ?_ _) | (with_reducible refine Kd.C_drew ?_))); (case side2 => exact HC0.out); rintro e w' ⟨rfl, ⟨nd, rfl⟩⟩; (try first | exact ⟨rfl, _, World.drewN_drewN _ _ _⟩ | exact ⟨rfl, _, Eq.trans (World.drewN_drewN _ _ _) (congrArg (World.drewN _) (Nat.add_assoc _ _ _))⟩)))
  repeat (go_quiet (first | (go_at_call 75; (with_reducible refine (seal_of.calls _ _ l0 t219 _ ?side1 ?side2 A3.out).mono ?_); (case side1 => repeat (first | exact HR0.out | (with_reducible refine Kd.C_alloc ?_ _) | (with_reducible refine Kd.C_drewN ?_ _) | (with_reducible refine Kd.C_drew ?_))); (case side2 => exact HC0.out); rintro e w' ⟨rfl, ⟨nd, rfl⟩⟩; (try first | exact ⟨rfl, _, World.drewN_drewN _ _ _⟩ | exact ⟨rfl, _, Eq.trans (World.drewN_drewN _ _ _) (congrArg (World.drewN _) (Nat.add_assoc _ _ _))⟩))); go_upto_region 4 with (first | (go_at_call 75; (with_reducible refine (seal_of.calls _ _ l0 t219 _ ?side1 ?side2 A3.out).mono ?_); (case side1 => repeat (first | exact HR0.out | (with_reducible refine Kd.C_alloc ?_ _) | (with_reducible refine Kd.C_drewN ?_ _) | (with_reducible refine Kd.C_drew ?_))); (case side2 => exact HC0.out); rintro e w' ⟨rfl, ⟨nd, rfl⟩⟩; (try first | exact ⟨rfl, _, World.drewN_drewN _ _ _⟩ | exact ⟨rfl, _, Eq.trans (World.drewN_drewN _ _ _) (congrArg (World.drewN _) (Nat.add_assoc _ _ _))⟩))))
  (try simp only [Act.put, sA_, sB_, sC_])
  go_cut [27] (fun v27 wc => ∃ (kq : Nat) (x27_3 : Bool), v27 = .bool x27_3 ∧ Aside0 (seal_Open.j0 kq l0 (wrap64 (t219)) x27_3 = some (r1, r2, r3)) ∧ Aside0 (kq ≤ k) ∧ Aside0 (Below w.heap.size w wc))
  case first =>
   have H := HC4.out
   clear HC4
   by_cases c5 : (wrap64 (t219)) = 0
   ·rw [if_pos c5] at H
    have c5b0 : ((wrap64 (t219)) == 0) = true := beq_iff_eq.mpr c5
    have c5b1 : ((wrap64 (t219)) != 0) = false := bne_eq_false_iff_eq.mpr c5
    clear c5
    (first | rw [c5b0] | (simp only [i64_w, i32_w]; rw [c5b0]) | skip)
    have H' := Aside0.mk H
    clear H
    go_wp2
    repeat (go_quiet (fail); try go_wp2)
    go_meet
    case rel => exact ⟨_, (true), kz3_9, H', ⟨by first | omega | exact Nat.le_refl _⟩, ⟨by repeat (first | (with_reducible first | exact HB.out | apply below_alloc | apply pw_below_drewN | apply below_drew1) | exact HB.out)⟩⟩
   ·rw [if_neg c5] at H
    have c5b0 : ((wrap64 (t219)) == 0) = false := beq_eq_false_iff_ne.mpr c5
    have c5b1 : ((wrap64 (t219)) != 0) = true := bne_iff_ne.mpr c5
    (first | rw [c5b0] | (simp only [i64_w, i32_w]; rw [c5b0]) | skip)
    by_cases c6 : (wrap64 (t219)) > 14000
    ·rw [if_pos c6] at H
     have c6b0 : decide (14000 < (wrap64 (t219))) = true := decide_eq_true c6
     clear c6
     have H' := Aside0.mk H
     clear H
     go_wp2
     repeat (go_quiet (fail); try go_wp2)
     go_meet
     case rel => exact ⟨_, (true), kz3_9, H', ⟨by first | omega | exact Nat.le_refl _⟩, ⟨by repeat (first | (with_reducible first | exact HB.out | apply below_alloc | apply pw_below_drewN | apply below_drew1) | exact HB.out)⟩⟩
    ·rw [if_neg c6] at H
     have c6b0 : decide (14000 < (wrap64 (t219))) = false := decide_eq_false c6
     clear c6
     by_cases c7 : 2 ≤ (l0.length : Int)
     ·rw [if_pos c7] at H
      have c7b0 := eq_true c7
      have c7b1 : decide (2 ≤ (l0.length : Int)) = true := decide_eq_true c7
      clear c7
      obtain ⟨y220, hy220⟩ : ∃ y_ : List Int, y_ = (l0.take 2) := ⟨_, rfl⟩
      replace H : ((seal_Sum.f k y220).bind fun t224 => ((seal_of.f (l0.drop 2)).bind fun t229 => (seal_Open.j0 k l0 (wrap64 (t219)) (t224 != t229)))) = some (r1, r2, r3) := by first | (rw [hy220]; with_reducible exact H) | (have H2_ := (Option.bind_some _ _).symm.trans H; rw [hy220]; with_reducible exact H2_) | (have H2_ := (Option.bind_some _ _).symm.trans H; with_reducible exact H2_) | with_reducible exact H | (rw [hy220]; exact H) | exact H
      have Ny220 := Aside0.mk hy220
      clear hy220
      replace H := Option.bind_eq_some_iff.mp H
      obtain ⟨t224, A80, H⟩ := H
      replace H : ((seal_of.f (l0.drop 2)).bind fun t229 => (seal_Open.j0 k l0 (wrap64 (t219)) (t224 != t229))) = some (r1, r2, r3) := H
      have A8 := Aside0.mk A80
      clear A80
      have c9b0 := eq_true (of_decide_eq_true kz3_4 : 2 ≤ (l0.length : Int))
      obtain ⟨y225, hy225⟩ : ∃ y_ : List Int, y_ = (l0.drop 2) := ⟨_, rfl⟩
      replace H : ((seal_of.f y225).bind fun t229 => (seal_Open.j0 k l0 (wrap64 (t219)) (t224 != t229))) = some (r1, r2, r3) := by first | (rw [hy225]; with_reducible exact H) | (have H2_ := (Option.bind_some _ _).symm.trans H; rw [hy225]; with_reducible exact H2_) | (have H2_ := (Option.bind_some _ _).symm.trans H; with_reducible exact H2_) | with_reducible exact H | (rw [hy225]; exact H) | exact H
      have Ny225 := Aside0.mk hy225
      clear hy225
      replace H := Option.bind_eq_some_iff.mp H
      obtain ⟨t229, A100, H⟩ := H
      replace H : (seal_Open.j0 k l0 (wrap64 (t219)) (t224 != t229)) = some (r1, r2, r3) := H
      have A10 := Aside0.mk A100
      clear A100
      have H' := Aside0.mk H
      clear H
      have q11 : (2 : Int) ≤ ((l0.length : Int) : Int) := of_decide_eq_true kz3_4
      obtain ⟨i011, hi011, _, hsz11, _⟩ := info_parts info5
      have hroom11 : l0.length ≤ c0 := HC0.out
      have hC11 : Kd.C (Kd.int .u8) _ A0 l0.length l0 := HR0.out
      have hcut11 := cut_to (P := Try.prog) 50 5 .i64 Try.underlying50 hi011 A0 l0.length c0 2 (by omega) q11 hroom11
      have hr11 := Kd.C_take (m := 2) hC11 (by omega)
      have hy11 : y220.length = (2 : Int).toNat := (by rw [Ny220.out, List.length_take]; omega)
      rw [← Ny220.out] at hr11
      rw [← hy11] at hcut11
      have HR223 := Aside0.mk hr11
      have HC223 := Aside0.mk (show y220.length ≤ c0 from by omega)
      clear hr11 hC11 hroom11 hi011 hsz11
      have KY11 := Aside0.mk hy11
      clear hy11
      replace q11 := eq_true q11
      go_wp2_with (first | (go_at_call 70; (with_reducible refine (seal_Sum.calls k _ _ y220 t224 _ ?side1 ?side2 A8.out).mono ?_); (case side1 => repeat (first | exact (Kd.C_below HR223.out HB.out) | (with_reducible refine Kd.C_alloc ?_ _) | (with_reducible refine Kd.C_drewN ?_ _) | (with_reducible refine Kd.C_drew ?_))); (case side2 => exact HC223.out); rintro e w' ⟨rfl, ⟨nd, rfl⟩⟩; (try first | exact ⟨rfl, _, World.drewN_drewN _ _ _⟩ | exact ⟨rfl, _, Eq.trans (World.drewN_drewN _ _ _) (congrArg (World.drewN _) (Nat.add_assoc _ _ _))⟩); have q12 : (2 : Int) ≤ ((l0.length : Int) : Int) := of_decide_eq_true kz3_4; obtain ⟨i012, hi012, _, hsz12, _⟩ := info_parts info5; have hroom12 : l0.length ≤ c0 := HC0.out; have hC12 : Kd.C (Kd.int .u8) _ A0 l0.length l0 := HR0.out; have hcut12 := cut_from (P := Try.prog) 50 5 .i64 Try.underlying50 hi012 1 hsz12 A0 l0.length c0 2 (by omega) q12; have hr12 := Kd.C_drop (m := (2 : Int).toNat) (c := c0) hC12 (by omega) hroom12; obtain ⟨A12, hA12⟩ : ∃ A1, A1 = (if c0 = (2 : Int).toNat then A0 else (A0 : Option Addr).map (·.add ((2 : Int).toNat * 1))) := ⟨_, rfl⟩; obtain ⟨c12, hc12⟩ : ∃ c1, c1 = c0 - (2 : Int).toNat := ⟨_, rfl⟩; have hy12 : y225.length = l0.length - (2 : Int).toNat := (by rw [Ny225.out, List.length_drop] <;> omega); rw [show (l0).drop (2 : Int).toNat = y225 from Ny225.out.symm] at hr12; replace hr12 : Kd.C (Kd.int .u8) _ A12 y225.length y225 := (by rw [hA12]; exact hr12); rw [← hy12, ← hA12, ← hc12] at hcut12; have HR228 := Aside0.mk hr12; have HC228 := Aside0.mk (show y225.length ≤ c12 from by rw [hy12, hc12]; exact Nat.sub_le_sub_right hroom12 _); clear hr12 hC12 hroom12 hi012 hsz12 hc12; have KY12 := Aside0.mk hy12; have KA12 := Aside0.mk hA12; clear hy12 hA12; replace q12 := eq_true q12) | (go_at_call 75; (with_reducible refine (seal_of.calls _ _ y225 t229 _ ?side1 ?side2 A10.out).mono ?_); (case side1 => repeat (first | exact (Kd.C_below HR228.out kz3_1) | (with_reducible refine Kd.C_alloc ?_ _) | (with_reducible refine Kd.C_drewN ?_ _) | (with_reducible refine Kd.C_drew ?_))); (case side2 => exact HC228.out); rintro e w' ⟨rfl, ⟨nd, rfl⟩⟩; (try first | exact ⟨rfl, _, World.drewN_drewN _ _ _⟩ | exact ⟨rfl, _, Eq.trans (World.drewN_drewN _ _ _) (congrArg (World.drewN _) (Nat.add_assoc _ _ _))⟩)))
      repeat (go_quiet (first | (go_at_call 70; (with_reducible refine (seal_Sum.calls k _ _ y220 t224 _ ?side1 ?side2 A8.out).mono ?_); (case side1 => repeat (first | exact (Kd.C_below HR223.out HB.out) | (with_reducible refine Kd.C_alloc ?_ _) | (with_reducible refine Kd.C_drewN ?_ _) | (with_reducible refine Kd.C_drew ?_))); (case side2 => exact HC223.out); rintro e w' ⟨rfl, ⟨nd, rfl⟩⟩; (try first | exact ⟨rfl, _, World.drewN_drewN _ _ _⟩ | exact ⟨rfl, _, Eq.trans (World.drewN_drewN _ _ _) (congrArg (World.drewN _) (Nat.add_assoc _ _ _))⟩); have q12 : (2 : Int) ≤ ((l0.length : Int) : Int) := of_decide_eq_true kz3_4; obtain ⟨i012, hi012, _, hsz12, _⟩ := info_parts info5; have hroom12 : l0.length ≤ c0 := HC0.out; have hC12 : Kd.C (Kd.int .u8) _ A0 l0.length l0 := HR0.out; have hcut12 := cut_from (P := Try.prog) 50 5 .i64 Try.underlying50 hi012 1 hsz12 A0 l0.length c0 2 (by omega) q12; have hr12 := Kd.C_drop (m := (2 : Int).toNat) (c := c0) hC12 (by omega) hroom12; obtain ⟨A12, hA12⟩ : ∃ A1, A1 = (if c0 = (2 : Int).toNat then A0 else (A0 : Option Addr).map (·.add ((2 : Int).toNat * 1))) := ⟨_, rfl⟩; obtain ⟨c12, hc12⟩ : ∃ c1, c1 = c0 - (2 : Int).toNat := ⟨_, rfl⟩; have hy12 : y225.length = l0.length - (2 : Int).toNat := (by rw [Ny225.out, List.length_drop] <;> omega); rw [show (l0).drop (2 : Int).toNat = y225 from Ny225.out.symm] at hr12; replace hr12 : Kd.C (Kd.int .u8) _ A12 y225.length y225 := (by rw [hA12]; exact hr12); rw [← hy12, ← hA12, ← hc12] at hcut12; have HR228 := Aside0.mk hr12; have HC228 := Aside0.mk (show y225.length ≤ c12 from by rw [hy12, hc12]; exact Nat.sub_le_sub_right hroom12 _); clear hr12 hC12 hroom12 hi012 hsz12 hc12; have KY12 := Aside0.mk hy12; have KA12 := Aside0.mk hA12; clear hy12 hA12; replace q12 := eq_true q12) | (go_at_call 75; (with_reducible refine (seal_of.calls _ _ y225 t229 _ ?side1 ?side2 A10.out).mono ?_); (case side1 => repeat (first | exact (Kd.C_below HR228.out kz3_1) | (with_reducible refine Kd.C_alloc ?_ _) | (with_reducible refine Kd.C_drewN ?_ _) | (with_reducible refine Kd.C_drew ?_))); (case side2 => exact HC228.out); rintro e w' ⟨rfl, ⟨nd, rfl⟩⟩; (try first | exact ⟨rfl, _, World.drewN_drewN _ _ _⟩ | exact ⟨rfl, _, Eq.trans (World.drewN_drewN _ _ _) (congrArg (World.drewN _) (Nat.add_assoc _ _ _))⟩))); try go_wp2_with (first | (go_at_call 70; (with_reducible refine (seal_Sum.calls k _ _ y220 t224 _ ?side1 ?side2 A8.out).mono ?_); (case side1 => repeat (first | exact (Kd.C_below HR223.out HB.out) | (with_reducible refine Kd.C_alloc ?_ _) | (with_reducible refine Kd.C_drewN ?_ _) | (with_reducible refine Kd.C_drew ?_))); (case side2 => exact HC223.out); rintro e w' ⟨rfl, ⟨nd, rfl⟩⟩; (try first | exact ⟨rfl, _, World.drewN_drewN _ _ _⟩ | exact ⟨rfl, _, Eq.trans (World.drewN_drewN _ _ _) (congrArg (World.drewN _) (Nat.add_assoc _ _ _))⟩); have q12 : (2 : Int) ≤ ((l0.length : Int) : Int) := of_decide_eq_true kz3_4; obtain ⟨i012, hi012, _, hsz12, _⟩ := info_parts info5; have hroom12 : l0.length ≤ c0 := HC0.out; have hC12 : Kd.C (Kd.int .u8) _ A0 l0.length l0 := HR0.out; have hcut12 := cut_from (P := Try.prog) 50 5 .i64 Try.underlying50 hi012 1 hsz12 A0 l0.length c0 2 (by omega) q12; have hr12 := Kd.C_drop (m := (2 : Int).toNat) (c := c0) hC12 (by omega) hroom12; obtain ⟨A12, hA12⟩ : ∃ A1, A1 = (if c0 = (2 : Int).toNat then A0 else (A0 : Option Addr).map (·.add ((2 : Int).toNat * 1))) := ⟨_, rfl⟩; obtain ⟨c12, hc12⟩ : ∃ c1, c1 = c0 - (2 : Int).toNat := ⟨_, rfl⟩; have hy12 : y225.length = l0.length - (2 : Int).toNat := (by rw [Ny225.out, List.length_drop] <;> omega); rw [show (l0).drop (2 : Int).toNat = y225 from Ny225.out.symm] at hr12; replace hr12 : Kd.C (Kd.int .u8) _ A12 y225.length y225 := (by rw [hA12]; exact hr12); rw [← hy12, ← hA12, ← hc12] at hcut12; have HR228 := Aside0.mk hr12; have HC228 := Aside0.mk (show y225.length ≤ c12 from by rw [hy12, hc12]; exact Nat.sub_le_sub_right hroom12 _); clear hr12 hC12 hroom12 hi012 hsz12 hc12; have KY12 := Aside0.mk hy12; have KA12 := Aside0.mk hA12; clear hy12 hA12; replace q12 := eq_true q12) | (go_at_call 75; (with_reducible refine (seal_of.calls _ _ y225 t229 _ ?side1 ?side2 A10.out).mono ?_); (case side1 => repeat (first | exact (Kd.C_below HR228.out kz3_1) | (with_reducible refine Kd.C_alloc ?_ _) | (with_reducible refine Kd.C_drewN ?_ _) | (with_reducible refine Kd.C_drew ?_))); (case side2 => exact HC228.out); rintro e w' ⟨rfl, ⟨nd, rfl⟩⟩; (try first | exact ⟨rfl, _, World.drewN_drewN _ _ _⟩ | exact ⟨rfl, _, Eq.trans (World.drewN_drewN _ _ _) (congrArg (World.drewN _) (Nat.add_assoc _ _ _))⟩))))
      go_meet
      case rel => exact ⟨_, ((t224 != t229)), kz3_9, H', ⟨by first | omega | exact Nat.le_refl _⟩, ⟨by repeat (first | (with_reducible first | exact HB.out | apply below_alloc | apply pw_below_drewN | apply below_drew1) | exact HB.out)⟩⟩
     ·rw [if_neg c7] at H
      exact absurd H (by simp)
  case rest =>
   clear HC4
   try clear c1
   try clear q1
   try clear c2
   try clear c2b0
   try clear c2b1
   try clear p2
   try clear c5
   try clear c5b0
   try clear c5b1
   try clear c6
   try clear c6b0
   try clear p6
   try clear c7
   try clear c7b0
   try clear c7b1
   try clear c9
   try clear c9b0
   try clear q11
   try clear c12
   try clear q12
   try clear q11
   try clear q12
   obtain ⟨kq, x27_3, rfl, HA, HJ3, HB⟩ := hcut
   cases kq with
   | zero => exact absurd HA.out (by simp [seal_Open.j0])
   | succ kj3 =>
    have H := HA.out
    clear HA
    simp only [seal_Open.j0] at H
    by_cases c13 : x27_3 = true
    ·subst c13
     have H1 : (some (([] : List Int), 0, 9)) = some (r1, r2, r3) := by rw [if_pos rfl] at H; exact H
     clear H
     have H := H1
     clear H1
     simp only [Option.some.injEq, Prod.mk.injEq] at H
     obtain ⟨rfl, rfl, rfl⟩ := H
     go_wp2
     repeat (go_quiet (fail); try go_wp2)
     go_ret3
     exact ⟨_, by first | rfl | (simp [errW_none, errW_some] <;> rfl) | (simp [*, errW_none, errW_some] <;> rfl), by first | exact Kd.R_nil _ _ _ _ _ | exact Kd.N_nil _ _ _ _ _ | exact Kd.V_nil _ _ _ _ _ | exact Kd.Q_nil _ _ _ _ _ | exact Kd.S_nil _ _ _ _ _, by repeat (first | (with_reducible first | exact HB.out | apply below_alloc | apply pw_below_drewN | apply below_drew1) | exact HB.out)⟩
    ·replace c13 := Bool.eq_false_iff.mpr c13
     subst c13
     have H1 : (if (l0.length : Int) < (wrap64 ((wrap64 (4 + (wrap64 (t219)))) + 2)) then (some (([] : List Int), 0, 5)) else (if 0 ≤ (wrap64 (4 + (wrap64 (t219)))) then (if (wrap64 (4 + (wrap64 (t219)))) ≤ (l0.length : Int) then ((seal_Sum.f kj3 (l0.take ((wrap64 (4 + (wrap64 (t219)))) : Int).toNat)).bind fun t234 => ((seal_of.f (l0.drop ((wrap64 (4 + (wrap64 (t219)))) : Int).toNat)).bind fun t239 => (if t234 = t239 then (if 4 ≤ (wrap64 (4 + (wrap64 (t219)))) then ((slices_Clone_byte_byte.f ((l0.take ((wrap64 (4 + (wrap64 (t219)))) : Int).toNat).drop 4)).bind fun t244 => (some (t244, wrap64 ((wrap64 (4 + (wrap64 (t219)))) + 2), 0))) else (none)) else (some (([] : List Int), 0, 9))))) else (none)) else (none))) = some (r1, r2, r3) := by rw [if_neg (show ¬ (false = true) by decide)] at H; exact H
     clear H
     have H := H1
     clear H1
     by_cases c14 : (l0.length : Int) < (wrap64 ((wrap64 (4 + (wrap64 (t219)))) + 2))
     ·rw [if_pos c14] at H
      have c14b0 : decide ((l0.length : Int) < (wrap64 ((wrap64 (4 + (wrap64 (t219)))) + 2))) = true := decide_eq_true c14
      clear c14
      simp only [Option.some.injEq, Prod.mk.injEq] at H
      obtain ⟨rfl, rfl, rfl⟩ := H
      go_wp2
      repeat (go_quiet (fail); try go_wp2)
      go_ret3
      exact ⟨_, by first | rfl | (simp [errW_none, errW_some] <;> rfl) | (simp [*, errW_none, errW_some] <;> rfl), by first | exact Kd.R_nil _ _ _ _ _ | exact Kd.N_nil _ _ _ _ _ | exact Kd.V_nil _ _ _ _ _ | exact Kd.Q_nil _ _ _ _ _ | exact Kd.S_nil _ _ _ _ _, by repeat (first | (with_reducible first | exact HB.out | apply below_alloc | apply pw_below_drewN | apply below_drew1) | exact HB.out)⟩
     ·rw [if_neg c14] at H
      have c14b0 : decide ((l0.length : Int) < (wrap64 ((wrap64 (4 + (wrap64 (t219)))) + 2))) = false := decide_eq_false c14
      clear c14
      obtain ⟨ji15, hji15⟩ : ∃ j_ : Int, (wrap64 (4 + (wrap64 (t219)))) = j_ := ⟨_, rfl⟩
      replace H : (if 0 ≤ (ji15) then (if (ji15) ≤ (l0.length : Int) then ((seal_Sum.f kj3 (l0.take ((ji15) : Int).toNat)).bind fun t234 => ((seal_of.f (l0.drop ((ji15) : Int).toNat)).bind fun t239 => (if t234 = t239 then (if 4 ≤ (ji15) then ((slices_Clone_byte_byte.f ((l0.take ((ji15) : Int).toNat).drop 4)).bind fun t244 => (some (t244, wrap64 ((ji15) + 2), 0))) else (none)) else (some (([] : List Int), 0, 9))))) else (none)) else (none)) = some (r1, r2, r3) := by first | (rw [hji15] at H; exact H) | (simp only [hji15] at H ⊢; exact H)
      (try rw [hji15] at c14b0)
      have hji15w : (IntKind.i64.wrap (4 + (wrap64 (t219)))) = ji15 := (i64_w _).trans hji15
      by_cases c16 : 0 ≤ (ji15)
      ·rw [if_pos c16] at H
       have c16b0 := eq_true c16
       have c16b1 : decide (0 ≤ (ji15)) = true := decide_eq_true c16
       clear c16
       by_cases c17 : (ji15) ≤ (l0.length : Int)
       ·rw [if_pos c17] at H
        have c17b0 := eq_true c17
        have c17b1 : decide ((ji15) ≤ (l0.length : Int)) = true := decide_eq_true c17
        clear c17
        obtain ⟨y230, hy230⟩ : ∃ y_ : List Int, y_ = (l0.take ((ji15) : Int).toNat) := ⟨_, rfl⟩
        replace H : ((seal_Sum.f kj3 y230).bind fun t234 => ((seal_of.f (l0.drop ((ji15) : Int).toNat)).bind fun t239 => (if t234 = t239 then (if 4 ≤ (ji15) then ((slices_Clone_byte_byte.f ((l0.take ((ji15) : Int).toNat).drop 4)).bind fun t244 => (some (t244, wrap64 ((ji15) + 2), 0))) else (none)) else (some (([] : List Int), 0, 9))))) = some (r1, r2, r3) := by first | (rw [hy230]; with_reducible exact H) | (have H2_ := (Option.bind_some _ _).symm.trans H; rw [hy230]; with_reducible exact H2_) | (have H2_ := (Option.bind_some _ _).symm.trans H; with_reducible exact H2_) | with_reducible exact H | (rw [hy230]; exact H) | exact H
        have Ny230 := Aside0.mk hy230
        clear hy230
        replace H := Option.bind_eq_some_iff.mp H
        obtain ⟨t234, A180, H⟩ := H
        replace H : ((seal_of.f (l0.drop ((ji15) : Int).toNat)).bind fun t239 => (if t234 = t239 then (if 4 ≤ (ji15) then ((slices_Clone_byte_byte.f ((l0.take ((ji15) : Int).toNat).drop 4)).bind fun t244 => (some (t244, wrap64 ((ji15) + 2), 0))) else (none)) else (some (([] : List Int), 0, 9)))) = some (r1, r2, r3) := H
        have A18 := Aside0.mk A180
        clear A180
        have c19b0 := eq_true (of_decide_eq_true kz3_4 : 0 ≤ (ji15))
        have c20b0 := eq_true (of_decide_eq_true kz3_4 : (ji15) ≤ (l0.length : Int))
        obtain ⟨y235, hy235⟩ : ∃ y_ : List Int, y_ = (l0.drop ((ji15) : Int).toNat) := ⟨_, rfl⟩
        replace H : ((seal_of.f y235).bind fun t239 => (if t234 = t239 then (if 4 ≤ (ji15) then ((slices_Clone_byte_byte.f ((l0.take ((ji15) : Int).toNat).drop 4)).bind fun t244 => (some (t244, wrap64 ((ji15) + 2), 0))) else (none)) else (some (([] : List Int), 0, 9)))) = some (r1, r2, r3) := by first | (rw [hy235]; with_reducible exact H) | (have H2_ := (Option.bind_some _ _).symm.trans H; rw [hy235]; with_reducible exact H2_) | (have H2_ := (Option.bind_some _ _).symm.trans H; with_reducible exact H2_) | with_reducible exact H | (rw [hy235]; exact H) | exact H
        have Ny235 := Aside0.mk hy235
        clear hy235
        replace H := Option.bind_eq_some_iff.mp H
        obtain ⟨t239, A210, H⟩ := H
        replace H : (if t234 = t239 then (if 4 ≤ (ji15) then ((slices_Clone_byte_byte.f ((l0.take ((ji15) : Int).toNat).drop 4)).bind fun t244 => (some (t244, wrap64 ((ji15) + 2), 0))) else (none)) else (some (([] : List Int), 0, 9))) = some (r1, r2, r3) := H
        have A21 := Aside0.mk A210
        clear A210
        by_cases c22 : t234 = t239
        ·rw [if_pos c22] at H
         have c22b0 : (t234 == t239) = true := beq_iff_eq.mpr c22
         have c22b1 : (t234 != t239) = false := bne_eq_false_iff_eq.mpr c22
         clear c22
         by_cases c23 : 4 ≤ (ji15)
         ·rw [if_pos c23] at H
          have c23b0 := eq_true c23
          have c23b1 : decide (4 ≤ (ji15)) = true := decide_eq_true c23
          clear c23
          have c24b0 := eq_true (of_decide_eq_true kz3_4 : (ji15) ≤ (l0.length : Int))
          obtain ⟨y240, hy240⟩ : ∃ y_ : List Int, y_ = ((l0.take ((ji15) : Int).toNat).drop 4) := ⟨_, rfl⟩
          replace H : ((slices_Clone_byte_byte.f y240).bind fun t244 => (some (t244, wrap64 ((ji15) + 2), 0))) = some (r1, r2, r3) := by first | (rw [hy240]; with_reducible exact H) | (have H2_ := (Option.bind_some _ _).symm.trans H; rw [hy240]; with_reducible exact H2_) | (have H2_ := (Option.bind_some _ _).symm.trans H; with_reducible exact H2_) | with_reducible exact H | (rw [hy240]; exact H) | exact H
          have Ny240 := Aside0.mk hy240
          clear hy240
          replace H := Option.bind_eq_some_iff.mp H
          obtain ⟨t244, A250, H⟩ := H
          replace H : (some (t244, wrap64 ((ji15) + 2), 0)) = some (r1, r2, r3) := H
          have A25 := Aside0.mk A250
          clear A250
          simp only [Option.some.injEq, Prod.mk.injEq] at H
          obtain ⟨rfl, rfl, rfl⟩ := H
          have q26 : ((ji15) : Int) ≤ ((l0.length : Int) : Int) := of_decide_eq_true kz3_4
          obtain ⟨i026, hi026, _, hsz26, _⟩ := info_parts info5
          have hroom26 : l0.length ≤ c0 := HC0.out
          have hC26 : Kd.C (Kd.int .u8) _ A0 l0.length l0 := HR0.out
          have hcut26 := cut_to (P := Try.prog) 50 5 .i64 Try.underlying50 hi026 A0 l0.length c0 (ji15) (of_decide_eq_true kz3_4) q26 hroom26
          have hr26 := Kd.C_take (m := ((ji15) : Int).toNat) hC26 (by omega)
          have hy26 : y230.length = ((ji15) : Int).toNat := (by rw [Ny230.out, List.length_take]; omega)
          rw [← Ny230.out] at hr26
          rw [← hy26] at hcut26
          have HR233 := Aside0.mk hr26
          have HC233 := Aside0.mk (show y230.length ≤ c0 from by omega)
          clear hr26 hC26 hroom26 hi026 hsz26
          have KY26 := Aside0.mk hy26
          clear hy26
          replace q26 := eq_true q26
          go_wp2_with (first | (go_at_call 70; (with_reducible refine (seal_Sum.calls kj3 _ _ y230 t234 _ ?side1 ?side2 A18.out).mono ?_); (case side1 => repeat (first | exact (Kd.C_below HR233.out HB.out) | (with_reducible refine Kd.C_alloc ?_ _) | (with_reducible refine Kd.C_drewN ?_ _) | (with_reducible refine Kd.C_drew ?_))); (case side2 => exact HC233.out); rintro e w' ⟨rfl, ⟨nd, rfl⟩⟩; (try first | exact ⟨rfl, _, World.drewN_drewN _ _ _⟩ | exact ⟨rfl, _, Eq.trans (World.drewN_drewN _ _ _) (congrArg (World.drewN _) (Nat.add_assoc _ _ _))⟩); have q27 : ((ji15) : Int) ≤ ((l0.length : Int) : Int) := of_decide_eq_true kz3_4; obtain ⟨i027, hi027, _, hsz27, _⟩ := info_parts info5; have hroom27 : l0.length ≤ c0 := HC0.out; have hC27 : Kd.C (Kd.int .u8) _ A0 l0.length l0 := HR0.out; have q027 : (0 : Int) ≤ ((ji15) : Int) := of_decide_eq_true kz3_4; have hcut27 := cut_from (P := Try.prog) 50 5 .i64 Try.underlying50 hi027 1 hsz27 A0 l0.length c0 (ji15) q027 q27; have hr27 := Kd.C_drop (m := ((ji15) : Int).toNat) (c := c0) hC27 (by omega) hroom27; obtain ⟨A27, hA27⟩ : ∃ A1, A1 = (if c0 = ((ji15) : Int).toNat then A0 else (A0 : Option Addr).map (·.add (((ji15) : Int).toNat * 1))) := ⟨_, rfl⟩; obtain ⟨c27, hc27⟩ : ∃ c1, c1 = c0 - ((ji15) : Int).toNat := ⟨_, rfl⟩; have hy27 : y235.length = l0.length - ((ji15) : Int).toNat := kz3_11; rw [show (l0).drop ((ji15) : Int).toNat = y235 from Ny235.out.symm] at hr27; replace hr27 : Kd.C (Kd.int .u8) _ A27 y235.length y235 := (by rw [hA27]; exact hr27); rw [← hy27, ← hA27, ← hc27] at hcut27; have HR238 := Aside0.mk hr27; have HC238 := Aside0.mk (show y235.length ≤ c27 from by rw [hy27, hc27]; exact Nat.sub_le_sub_right hroom27 _); clear hr27 hC27 hroom27 hi027 hsz27 hc27; have KY27 := Aside0.mk hy27; have KA27 := Aside0.mk hA27; clear hy27 hA27; replace q27 := eq_true q27) | (go_at_call 75; (with_reducible refine (seal_of.calls _ _ y235 t239 _ ?side1 ?side2 A21.out).mono ?_); (case side1 => repeat (first | exact (Kd.C_below HR238.out kz3_1) | (with_reducible refine Kd.C_alloc ?_ _) | (with_reducible refine Kd.C_drewN ?_ _) | (with_reducible refine Kd.C_drew ?_))); (case side2 => exact HC238.out); rintro e w' ⟨rfl, ⟨nd, rfl⟩⟩; (try first | exact ⟨rfl, _, World.drewN_drewN _ _ _⟩ | exact ⟨rfl, _, Eq.trans (World.drewN_drewN _ _ _) (congrArg (World.drewN _) (Nat.add_assoc _ _ _))⟩); have q28 : ((ji15) : Int) ≤ ((l0.length : Int) : Int) := of_decide_eq_true kz3_4; obtain ⟨i028, hi028, _, hsz28, _⟩ := info_parts info5; have hroom28 : l0.length ≤ c0 := HC0.out; have hC28 : Kd.C (Kd.int .u8) _ A0 l0.length l0 := HR0.out; have ql28 : (4 : Int) ≤ ((ji15) : Int) := of_decide_eq_true kz3_4; have hcut28 := cut_mid (P := Try.prog) 50 5 .i64 .i64 Try.underlying50 hi028 1 hsz28 A0 l0.length c0 4 (ji15) (by omega) ql28 q28 hroom28; have hr28 := Kd.C_mid (lo := (4 : Int).toNat) (hi := ((ji15) : Int).toNat) (c := c0) hC28 (by omega) (by omega) hroom28; obtain ⟨A28, hA28⟩ : ∃ A1, A1 = (if c0 = (4 : Int).toNat then A0 else (A0 : Option Addr).map (·.add ((4 : Int).toNat * 1))) := ⟨_, rfl⟩; obtain ⟨c28, hc28⟩ : ∃ c1, c1 = c0 - (4 : Int).toNat := ⟨_, rfl⟩; have hy28 : y240.length = ((ji15) : Int).toNat - (4 : Int).toNat := (by rw [Ny240.out, List.length_drop, List.length_take] <;> omega); rw [show ((l0).take ((ji15) : Int).toNat).drop (4 : Int).toNat = y240 from Ny240.out.symm] at hr28; replace hr28 : Kd.C (Kd.int .u8) _ A28 y240.length y240 := (by rw [hA28]; exact hr28); rw [← hy28, ← hA28, ← hc28] at hcut28; have HR243 := Aside0.mk hr28; have HC243 := Aside0.mk (show y240.length ≤ c28 from by rw [hy28, hc28]; exact Nat.sub_le_sub_right (Nat.le_trans (by omega) hroom28) _); clear hr28 hC28 hroom28 hi028 hsz28 hc28; have KY28 := Aside0.mk hy28; have KA28 := Aside0.mk hA28; clear hy28 hA28; replace q28 := eq_true q28) | (go_at_call 76; (with_reducible refine (slices_Clone_byte_byte.calls _ _ y240 t244 _ ?side1 ?side2 A25.out).mono ?_); (case side1 => repeat (first | exact (Kd.C_below HR243.out kz3_1) | (with_reducible refine Kd.C_alloc ?_ _) | (with_reducible refine Kd.C_drewN ?_ _) | (with_reducible refine Kd.C_drew ?_))); (case side2 => exact HC243.out); rintro e w29 ⟨v245, rfl, ho0, hb⟩; have n0_ := Aside0.mk (Kd.R_lower ho0 (below_size kz3_1)); have n1_ := Aside0.mk (below_step kz3_1 hb); clear HB; have HO246 := n0_; have HB := n1_; clear n0_ n1_; (try clear hb); (try clear hb2); (try clear hk); (try clear hi); (try clear ho0)))
          repeat (go_quiet (first | (go_at_call 70; (with_reducible refine (seal_Sum.calls kj3 _ _ y230 t234 _ ?side1 ?side2 A18.out).mono ?_); (case side1 => repeat (first | exact (Kd.C_below HR233.out HB.out) | (with_reducible refine Kd.C_alloc ?_ _) | (with_reducible refine Kd.C_drewN ?_ _) | (with_reducible refine Kd.C_drew ?_))); (case side2 => exact HC233.out); rintro e w' ⟨rfl, ⟨nd, rfl⟩⟩; (try first | exact ⟨rfl, _, World.drewN_drewN _ _ _⟩ | exact ⟨rfl, _, Eq.trans (World.drewN_drewN _ _ _) (congrArg (World.drewN _) (Nat.add_assoc _ _ _))⟩); have q27 : ((ji15) : Int) ≤ ((l0.length : Int) : Int) := of_decide_eq_true kz3_4; obtain ⟨i027, hi027, _, hsz27, _⟩ := info_parts info5; have hroom27 : l0.length ≤ c0 := HC0.out; have hC27 : Kd.C (Kd.int .u8) _ A0 l0.length l0 := HR0.out; have q027 : (0 : Int) ≤ ((ji15) : Int) := of_decide_eq_true kz3_4; have hcut27 := cut_from (P := Try.prog) 50 5 .i64 Try.underlying50 hi027 1 hsz27 A0 l0.length c0 (ji15) q027 q27; have hr27 := Kd.C_drop (m := ((ji15) : Int).toNat) (c := c0) hC27 (by omega) hroom27; obtain ⟨A27, hA27⟩ : ∃ A1, A1 = (if c0 = ((ji15) : Int).toNat then A0 else (A0 : Option Addr).map (·.add (((ji15) : Int).toNat * 1))) := ⟨_, rfl⟩; obtain ⟨c27, hc27⟩ : ∃ c1, c1 = c0 - ((ji15) : Int).toNat := ⟨_, rfl⟩; have hy27 : y235.length = l0.length - ((ji15) : Int).toNat := kz3_11; rw [show (l0).drop ((ji15) : Int).toNat = y235 from Ny235.out.symm] at hr27; replace hr27 : Kd.C (Kd.int .u8) _ A27 y235.length y235 := (by rw [hA27]; exact hr27); rw [← hy27, ← hA27, ← hc27] at hcut27; have HR238 := Aside0.mk hr27; have HC238 := Aside0.mk (show y235.length ≤ c27 from by rw [hy27, hc27]; exact Nat.sub_le_sub_right hroom27 _); clear hr27 hC27 hroom27 hi027 hsz27 hc27; have KY27 := Aside0.mk hy27; have KA27 := Aside0.mk hA27; clear hy27 hA27; replace q27 := eq_true q27) | (go_at_call 75; (with_reducible refine (seal_of.calls _ _ y235 t239 _ ?side1 ?side2 A21.out).mono ?_); (case side1 => repeat (first | exact (Kd.C_below HR238.out kz3_1) | (with_reducible refine Kd.C_alloc ?_ _) | (with_reducible refine Kd.C_drewN ?_ _) | (with_reducible refine Kd.C_drew ?_))); (case side2 => exact HC238.out); rintro e w' ⟨rfl, ⟨nd, rfl⟩⟩; (try first | exact ⟨rfl, _, World.drewN_drewN _ _ _⟩ | exact ⟨rfl, _, Eq.trans (World.drewN_drewN _ _ _) (congrArg (World.drewN _) (Nat.add_assoc _ _ _))⟩); have q28 : ((ji15) : Int) ≤ ((l0.length : Int) : Int) := of_decide_eq_true kz3_4; obtain ⟨i028, hi028, _, hsz28, _⟩ := info_parts info5; have hroom28 : l0.length ≤ c0 := HC0.out; have hC28 : Kd.C (Kd.int .u8) _ A0 l0.length l0 := HR0.out; have ql28 : (4 : Int) ≤ ((ji15) : Int) := of_decide_eq_true kz3_4; have hcut28 := cut_mid (P := Try.prog) 50 5 .i64 .i64 Try.underlying50 hi028 1 hsz28 A0 l0.length c0 4 (ji15) (by omega) ql28 q28 hroom28; have hr28 := Kd.C_mid (lo := (4 : Int).toNat) (hi := ((ji15) : Int).toNat) (c := c0) hC28 (by omega) (by omega) hroom28; obtain ⟨A28, hA28⟩ : ∃ A1, A1 = (if c0 = (4 : Int).toNat then A0 else (A0 : Option Addr).map (·.add ((4 : Int).toNat * 1))) := ⟨_, rfl⟩; obtain ⟨c28, hc28⟩ : ∃ c1, c1 = c0 - (4 : Int).toNat := ⟨_, rfl⟩; have hy28 : y240.length = ((ji15) : Int).toNat - (4 : Int).toNat := (by rw [Ny240.out, List.length_drop, List.length_take] <;> omega); rw [show ((l0).take ((ji15) : Int).toNat).drop (4 : Int).toNat = y240 from Ny240.out.symm] at hr28; replace hr28 : Kd.C (Kd.int .u8) _ A28 y240.length y240 := (by rw [hA28]; exact hr28); rw [← hy28, ← hA28, ← hc28] at hcut28; have HR243 := Aside0.mk hr28; have HC243 := Aside0.mk (show y240.length ≤ c28 from by rw [hy28, hc28]; exact Nat.sub_le_sub_right (Nat.le_trans (by omega) hroom28) _); clear hr28 hC28 hroom28 hi028 hsz28 hc28; have KY28 := Aside0.mk hy28; have KA28 := Aside0.mk hA28; clear hy28 hA28; replace q28 := eq_true q28) | (go_at_call 76; (with_reducible refine (slices_Clone_byte_byte.calls _ _ y240 t244 _ ?side1 ?side2 A25.out).mono ?_); (case side1 => repeat (first | exact (Kd.C_below HR243.out kz3_1) | (with_reducible refine Kd.C_alloc ?_ _) | (with_reducible refine Kd.C_drewN ?_ _) | (with_reducible refine Kd.C_drew ?_))); (case side2 => exact HC243.out); rintro e w29 ⟨v245, rfl, ho0, hb⟩; have n0_ := Aside0.mk (Kd.R_lower ho0 (below_size kz3_1)); have n1_ := Aside0.mk (below_step kz3_1 hb); clear HB; have HO246 := n0_; have HB := n1_; clear n0_ n1_; (try clear hb); (try clear hb2); (try clear hk); (try clear hi); (try clear ho0))); try go_wp2_with (first | (go_at_call 70; (with_reducible refine (seal_Sum.calls kj3 _ _ y230 t234 _ ?side1 ?side2 A18.out).mono ?_); (case side1 => repeat (first | exact (Kd.C_below HR233.out HB.out) | (with_reducible refine Kd.C_alloc ?_ _) | (with_reducible refine Kd.C_drewN ?_ _) | (with_reducible refine Kd.C_drew ?_))); (case side2 => exact HC233.out); rintro e w' ⟨rfl, ⟨nd, rfl⟩⟩; (try first | exact ⟨rfl, _, World.drewN_drewN _ _ _⟩ | exact ⟨rfl, _, Eq.trans (World.drewN_drewN _ _ _) (congrArg (World.drewN _) (Nat.add_assoc _ _ _))⟩); have q27 : ((ji15) : Int) ≤ ((l0.length : Int) : Int) := of_decide_eq_true kz3_4; obtain ⟨i027, hi027, _, hsz27, _⟩ := info_parts info5; have hroom27 : l0.length ≤ c0 := HC0.out; have hC27 : Kd.C (Kd.int .u8) _ A0 l0.length l0 := HR0.out; have q027 : (0 : Int) ≤ ((ji15) : Int) := of_decide_eq_true kz3_4; have hcut27 := cut_from (P := Try.prog) 50 5 .i64 Try.underlying50 hi027 1 hsz27 A0 l0.length c0 (ji15) q027 q27; have hr27 := Kd.C_drop (m := ((ji15) : Int).toNat) (c := c0) hC27 (by omega) hroom27; obtain ⟨A27, hA27⟩ : ∃ A1, A1 = (if c0 = ((ji15) : Int).toNat then A0 else (A0 : Option Addr).map (·.add (((ji15) : Int).toNat * 1))) := ⟨_, rfl⟩; obtain ⟨c27, hc27⟩ : ∃ c1, c1 = c0 - ((ji15) : Int).toNat := ⟨_, rfl⟩; have hy27 : y235.length = l0.length - ((ji15) : Int).toNat := kz3_11; rw [show (l0).drop ((ji15) : Int).toNat = y235 from Ny235.out.symm] at hr27; replace hr27 : Kd.C (Kd.int .u8) _ A27 y235.length y235 := (by rw [hA27]; exact hr27); rw [← hy27, ← hA27, ← hc27] at hcut27; have HR238 := Aside0.mk hr27; have HC238 := Aside0.mk (show y235.length ≤ c27 from by rw [hy27, hc27]; exact Nat.sub_le_sub_right hroom27 _); clear hr27 hC27 hroom27 hi027 hsz27 hc27; have KY27 := Aside0.mk hy27; have KA27 := Aside0.mk hA27; clear hy27 hA27; replace q27 := eq_true q27) | (go_at_call 75; (with_reducible refine (seal_of.calls _ _ y235 t239 _ ?side1 ?side2 A21.out).mono ?_); (case side1 => repeat (first | exact (Kd.C_below HR238.out kz3_1) | (with_reducible refine Kd.C_alloc ?_ _) | (with_reducible refine Kd.C_drewN ?_ _) | (with_reducible refine Kd.C_drew ?_))); (case side2 => exact HC238.out); rintro e w' ⟨rfl, ⟨nd, rfl⟩⟩; (try first | exact ⟨rfl, _, World.drewN_drewN _ _ _⟩ | exact ⟨rfl, _, Eq.trans (World.drewN_drewN _ _ _) (congrArg (World.drewN _) (Nat.add_assoc _ _ _))⟩); have q28 : ((ji15) : Int) ≤ ((l0.length : Int) : Int) := of_decide_eq_true kz3_4; obtain ⟨i028, hi028, _, hsz28, _⟩ := info_parts info5; have hroom28 : l0.length ≤ c0 := HC0.out; have hC28 : Kd.C (Kd.int .u8) _ A0 l0.length l0 := HR0.out; have ql28 : (4 : Int) ≤ ((ji15) : Int) := of_decide_eq_true kz3_4; have hcut28 := cut_mid (P := Try.prog) 50 5 .i64 .i64 Try.underlying50 hi028 1 hsz28 A0 l0.length c0 4 (ji15) (by omega) ql28 q28 hroom28; have hr28 := Kd.C_mid (lo := (4 : Int).toNat) (hi := ((ji15) : Int).toNat) (c := c0) hC28 (by omega) (by omega) hroom28; obtain ⟨A28, hA28⟩ : ∃ A1, A1 = (if c0 = (4 : Int).toNat then A0 else (A0 : Option Addr).map (·.add ((4 : Int).toNat * 1))) := ⟨_, rfl⟩; obtain ⟨c28, hc28⟩ : ∃ c1, c1 = c0 - (4 : Int).toNat := ⟨_, rfl⟩; have hy28 : y240.length = ((ji15) : Int).toNat - (4 : Int).toNat := (by rw [Ny240.out, List.length_drop, List.length_take] <;> omega); rw [show ((l0).take ((ji15) : Int).toNat).drop (4 : Int).toNat = y240 from Ny240.out.symm] at hr28; replace hr28 : Kd.C (Kd.int .u8) _ A28 y240.length y240 := (by rw [hA28]; exact hr28); rw [← hy28, ← hA28, ← hc28] at hcut28; have HR243 := Aside0.mk hr28; have HC243 := Aside0.mk (show y240.length ≤ c28 from by rw [hy28, hc28]; exact Nat.sub_le_sub_right (Nat.le_trans (by omega) hroom28) _); clear hr28 hC28 hroom28 hi028 hsz28 hc28; have KY28 := Aside0.mk hy28; have KA28 := Aside0.mk hA28; clear hy28 hA28; replace q28 := eq_true q28) | (go_at_call 76; (with_reducible refine (slices_Clone_byte_byte.calls _ _ y240 t244 _ ?side1 ?side2 A25.out).mono ?_); (case side1 => repeat (first | exact (Kd.C_below HR243.out kz3_1) | (with_reducible refine Kd.C_alloc ?_ _) | (with_reducible refine Kd.C_drewN ?_ _) | (with_reducible refine Kd.C_drew ?_))); (case side2 => exact HC243.out); rintro e w29 ⟨v245, rfl, ho0, hb⟩; have n0_ := Aside0.mk (Kd.R_lower ho0 (below_size kz3_1)); have n1_ := Aside0.mk (below_step kz3_1 hb); clear HB; have HO246 := n0_; have HB := n1_; clear n0_ n1_; (try clear hb); (try clear hb2); (try clear hk); (try clear hi); (try clear ho0))))
          go_ret3
          exact ⟨_, by first | rfl | (simp [errW_none, errW_some] <;> rfl) | (simp only [← hji15]; first | rfl | (simp [errW_none, errW_some] <;> rfl)) | (simp [*, errW_none, errW_some] <;> rfl), by (with_reducible repeat (first | apply Kd.R_alloc | apply Kd.R_drewN | apply Kd.R_drew)); exact HO246.out, by repeat (first | (with_reducible first | exact HB.out | apply below_alloc | apply pw_below_drewN | apply below_drew1) | exact HB.out)⟩
         ·rw [if_neg c23] at H
          exact absurd H (by simp)
        ·rw [if_neg c22] at H
         have c22b0 : (t234 == t239) = false := beq_eq_false_iff_ne.mpr c22
         have c22b1 : (t234 != t239) = true := bne_iff_ne.mpr c22
         simp only [Option.some.injEq, Prod.mk.injEq] at H
         obtain ⟨rfl, rfl, rfl⟩ := H
         have q30 : ((ji15) : Int) ≤ ((l0.length : Int) : Int) := of_decide_eq_true kz3_4
         obtain ⟨i030, hi030, _, hsz30, _⟩ := info_parts info5
         have hroom30 : l0.length ≤ c0 := HC0.out
         have hC30 : Kd.C (Kd.int .u8) _ A0 l0.length l0 := HR0.out
         have hcut30 := cut_to (P := Try.prog) 50 5 .i64 Try.underlying50 hi030 A0 l0.length c0 (ji15) (of_decide_eq_true kz3_4) q30 hroom30
         have hr30 := Kd.C_take (m := ((ji15) : Int).toNat) hC30 (by omega)
         have hy30 : y230.length = ((ji15) : Int).toNat := (by rw [Ny230.out, List.length_take]; omega)
         rw [← Ny230.out] at hr30
         rw [← hy30] at hcut30
         have HR233 := Aside0.mk hr30
         have HC233 := Aside0.mk (show y230.length ≤ c0 from by omega)
         clear hr30 hC30 hroom30 hi030 hsz30
         have KY30 := Aside0.mk hy30
         clear hy30
         replace q30 := eq_true q30
         go_wp2_with (first | (go_at_call 70; (with_reducible refine (seal_Sum.calls kj3 _ _ y230 t234 _ ?side1 ?side2 A18.out).mono ?_); (case side1 => repeat (first | exact (Kd.C_below HR233.out HB.out) | (with_reducible refine Kd.C_alloc ?_ _) | (with_reducible refine Kd.C_drewN ?_ _) | (with_reducible refine Kd.C_drew ?_))); (case side2 => exact HC233.out); rintro e w' ⟨rfl, ⟨nd, rfl⟩⟩; (try first | exact ⟨rfl, _, World.drewN_drewN _ _ _⟩ | exact ⟨rfl, _, Eq.trans (World.drewN_drewN _ _ _) (congrArg (World.drewN _) (Nat.add_assoc _ _ _))⟩); have q31 : ((ji15) : Int) ≤ ((l0.length : Int) : Int) := of_decide_eq_true kz3_4; obtain ⟨i031, hi031, _, hsz31, _⟩ := info_parts info5; have hroom31 : l0.length ≤ c0 := HC0.out; have hC31 : Kd.C (Kd.int .u8) _ A0 l0.length l0 := HR0.out; have q031 : (0 : Int) ≤ ((ji15) : Int) := of_decide_eq_true kz3_4; have hcut31 := cut_from (P := Try.prog) 50 5 .i64 Try.underlying50 hi031 1 hsz31 A0 l0.length c0 (ji15) q031 q31; have hr31 := Kd.C_drop (m := ((ji15) : Int).toNat) (c := c0) hC31 (by omega) hroom31; obtain ⟨A31, hA31⟩ : ∃ A1, A1 = (if c0 = ((ji15) : Int).toNat then A0 else (A0 : Option Addr).map (·.add (((ji15) : Int).toNat * 1))) := ⟨_, rfl⟩; obtain ⟨c31, hc31⟩ : ∃ c1, c1 = c0 - ((ji15) : Int).toNat := ⟨_, rfl⟩; have hy31 : y235.length = l0.length - ((ji15) : Int).toNat := kz3_11; rw [show (l0).drop ((ji15) : Int).toNat = y235 from Ny235.out.symm] at hr31; replace hr31 : Kd.C (Kd.int .u8) _ A31 y235.length y235 := (by rw [hA31]; exact hr31); rw [← hy31, ← hA31, ← hc31] at hcut31; have HR238 := Aside0.mk hr31; have HC238 := Aside0.mk (show y235.length ≤ c31 from by rw [hy31, hc31]; exact Nat.sub_le_sub_right hroom31 _); clear hr31 hC31 hroom31 hi031 hsz31 hc31; have KY31 := Aside0.mk hy31; have KA31 := Aside0.mk hA31; clear hy31 hA31; replace q31 := eq_true q31) | (go_at_call 75; (with_reducible refine (seal_of.calls _ _ y235 t239 _ ?side1 ?side2 A21.out).mono ?_); (case side1 => repeat (first | exact (Kd.C_below HR238.out kz3_1) | (with_reducible refine Kd.C_alloc ?_ _) | (with_reducible refine Kd.C_drewN ?_ _) | (with_reducible refine Kd.C_drew ?_))); (case side2 => exact HC238.out); rintro e w' ⟨rfl, ⟨nd, rfl⟩⟩; (try first | exact ⟨rfl, _, World.drewN_drewN _ _ _⟩ | exact ⟨rfl, _, Eq.trans (World.drewN_drewN _ _ _) (congrArg (World.drewN _) (Nat.add_assoc _ _ _))⟩)))
         repeat (go_quiet (first | (go_at_call 70; (with_reducible refine (seal_Sum.calls kj3 _ _ y230 t234 _ ?side1 ?side2 A18.out).mono ?_); (case side1 => repeat (first | exact (Kd.C_below HR233.out HB.out) | (with_reducible refine Kd.C_alloc ?_ _) | (with_reducible refine Kd.C_drewN ?_ _) | (with_reducible refine Kd.C_drew ?_))); (case side2 => exact HC233.out); rintro e w' ⟨rfl, ⟨nd, rfl⟩⟩; (try first | exact ⟨rfl, _, World.drewN_drewN _ _ _⟩ | exact ⟨rfl, _, Eq.trans (World.drewN_drewN _ _ _) (congrArg (World.drewN _) (Nat.add_assoc _ _ _))⟩); have q31 : ((ji15) : Int) ≤ ((l0.length : Int) : Int) := of_decide_eq_true kz3_4; obtain ⟨i031, hi031, _, hsz31, _⟩ := info_parts info5; have hroom31 : l0.length ≤ c0 := HC0.out; have hC31 : Kd.C (Kd.int .u8) _ A0 l0.length l0 := HR0.out; have q031 : (0 : Int) ≤ ((ji15) : Int) := of_decide_eq_true kz3_4; have hcut31 := cut_from (P := Try.prog) 50 5 .i64 Try.underlying50 hi031 1 hsz31 A0 l0.length c0 (ji15) q031 q31; have hr31 := Kd.C_drop (m := ((ji15) : Int).toNat) (c := c0) hC31 (by omega) hroom31; obtain ⟨A31, hA31⟩ : ∃ A1, A1 = (if c0 = ((ji15) : Int).toNat then A0 else (A0 : Option Addr).map (·.add (((ji15) : Int).toNat * 1))) := ⟨_, rfl⟩; obtain ⟨c31, hc31⟩ : ∃ c1, c1 = c0 - ((ji15) : Int).toNat := ⟨_, rfl⟩; have hy31 : y235.length = l0.length - ((ji15) : Int).toNat := kz3_11; rw [show (l0).drop ((ji15) : Int).toNat = y235 from Ny235.out.symm] at hr31; replace hr31 : Kd.C (Kd.int .u8) _ A31 y235.length y235 := (by rw [hA31]; exact hr31); rw [← hy31, ← hA31, ← hc31] at hcut31; have HR238 := Aside0.mk hr31; have HC238 := Aside0.mk (show y235.length ≤ c31 from by rw [hy31, hc31]; exact Nat.sub_le_sub_right hroom31 _); clear hr31 hC31 hroom31 hi031 hsz31 hc31; have KY31 := Aside0.mk hy31; have KA31 := Aside0.mk hA31; clear hy31 hA31; replace q31 := eq_true q31) | (go_at_call 75; (with_reducible refine (seal_of.calls _ _ y235 t239 _ ?side1 ?side2 A21.out).mono ?_); (case side1 => repeat (first | exact (Kd.C_below HR238.out kz3_1) | (with_reducible refine Kd.C_alloc ?_ _) | (with_reducible refine Kd.C_drewN ?_ _) | (with_reducible refine Kd.C_drew ?_))); (case side2 => exact HC238.out); rintro e w' ⟨rfl, ⟨nd, rfl⟩⟩; (try first | exact ⟨rfl, _, World.drewN_drewN _ _ _⟩ | exact ⟨rfl, _, Eq.trans (World.drewN_drewN _ _ _) (congrArg (World.drewN _) (Nat.add_assoc _ _ _))⟩))); try go_wp2_with (first | (go_at_call 70; (with_reducible refine (seal_Sum.calls kj3 _ _ y230 t234 _ ?side1 ?side2 A18.out).mono ?_); (case side1 => repeat (first | exact (Kd.C_below HR233.out HB.out) | (with_reducible refine Kd.C_alloc ?_ _) | (with_reducible refine Kd.C_drewN ?_ _) | (with_reducible refine Kd.C_drew ?_))); (case side2 => exact HC233.out); rintro e w' ⟨rfl, ⟨nd, rfl⟩⟩; (try first | exact ⟨rfl, _, World.drewN_drewN _ _ _⟩ | exact ⟨rfl, _, Eq.trans (World.drewN_drewN _ _ _) (congrArg (World.drewN _) (Nat.add_assoc _ _ _))⟩); have q31 : ((ji15) : Int) ≤ ((l0.length : Int) : Int) := of_decide_eq_true kz3_4; obtain ⟨i031, hi031, _, hsz31, _⟩ := info_parts info5; have hroom31 : l0.length ≤ c0 := HC0.out; have hC31 : Kd.C (Kd.int .u8) _ A0 l0.length l0 := HR0.out; have q031 : (0 : Int) ≤ ((ji15) : Int) := of_decide_eq_true kz3_4; have hcut31 := cut_from (P := Try.prog) 50 5 .i64 Try.underlying50 hi031 1 hsz31 A0 l0.length c0 (ji15) q031 q31; have hr31 := Kd.C_drop (m := ((ji15) : Int).toNat) (c := c0) hC31 (by omega) hroom31; obtain ⟨A31, hA31⟩ : ∃ A1, A1 = (if c0 = ((ji15) : Int).toNat then A0 else (A0 : Option Addr).map (·.add (((ji15) : Int).toNat * 1))) := ⟨_, rfl⟩; obtain ⟨c31, hc31⟩ : ∃ c1, c1 = c0 - ((ji15) : Int).toNat := ⟨_, rfl⟩; have hy31 : y235.length = l0.length - ((ji15) : Int).toNat := kz3_11; rw [show (l0).drop ((ji15) : Int).toNat = y235 from Ny235.out.symm] at hr31; replace hr31 : Kd.C (Kd.int .u8) _ A31 y235.length y235 := (by rw [hA31]; exact hr31); rw [← hy31, ← hA31, ← hc31] at hcut31; have HR238 := Aside0.mk hr31; have HC238 := Aside0.mk (show y235.length ≤ c31 from by rw [hy31, hc31]; exact Nat.sub_le_sub_right hroom31 _); clear hr31 hC31 hroom31 hi031 hsz31 hc31; have KY31 := Aside0.mk hy31; have KA31 := Aside0.mk hA31; clear hy31 hA31; replace q31 := eq_true q31) | (go_at_call 75; (with_reducible refine (seal_of.calls _ _ y235 t239 _ ?side1 ?side2 A21.out).mono ?_); (case side1 => repeat (first | exact (Kd.C_below HR238.out kz3_1) | (with_reducible refine Kd.C_alloc ?_ _) | (with_reducible refine Kd.C_drewN ?_ _) | (with_reducible refine Kd.C_drew ?_))); (case side2 => exact HC238.out); rintro e w' ⟨rfl, ⟨nd, rfl⟩⟩; (try first | exact ⟨rfl, _, World.drewN_drewN _ _ _⟩ | exact ⟨rfl, _, Eq.trans (World.drewN_drewN _ _ _) (congrArg (World.drewN _) (Nat.add_assoc _ _ _))⟩))))
         go_ret3
         exact ⟨_, by first | rfl | (simp [errW_none, errW_some] <;> rfl) | (simp only [← hji15]; first | rfl | (simp [errW_none, errW_some] <;> rfl)) | (simp [*, errW_none, errW_some] <;> rfl), by first | exact Kd.R_nil _ _ _ _ _ | exact Kd.N_nil _ _ _ _ _ | exact Kd.V_nil _ _ _ _ _ | exact Kd.Q_nil _ _ _ _ _ | exact Kd.S_nil _ _ _ _ _, by repeat (first | (with_reducible first | exact HB.out | apply below_alloc | apply pw_below_drewN | apply below_drew1) | exact HB.out)⟩
       ·rw [if_neg c17] at H
        exact absurd H (by simp)
      ·rw [if_neg c16] at H
       exact absurd H (by simp)

end Go.Proofs.Ytdglbiafpofeeaa.POutboxTurned
