-- Written by fprint.py (wip), by way of the printer's functions; where they are turned, by texts of mine.
import Derived.Test.YtjghlomkimoeoaaPConfigAsksx0
import Derived.Test.YtjghlomkimoeoaaPConfigAsksx2
import Derived.Test.YtjghlomkimoeoaaPConfigAsksx3
import Derived.Test.YtjghlomkimoeoaaPConfigAsksx6
import Derived.Test.YtjghlomkimoeoaaPConfigAsksx7
namespace Go.Proofs.Ytjghlomkimoeoaa.PConfigAsks
open Go.RowKit Go.Proofs.YtjghlomkimoeoaaW.PrintWords Go.Proofs.YtjghlomkimoeoaaW.PrintLast Go.Proofs.YtjghlomkimoeoaaW.PrintMore
attribute [local go_sem] max2_int min2_int max_two min_two max_three min_three max_four min_four   -- for this text's walks alone
set_option linter.unusedVariables false
set_option linter.unusedSimpArgs false
theorem kz10_1 {p_ : Prop} (h_ : p_ := by repeat (first | (with_reducible first | exact HB.out | apply below_alloc | apply pw_below_drewN | apply below_drew1) | exact HB.out)) : p_ := h_
theorem kz10_2 {p_ : Prop} (h_ : p_ := by (try simp only [List.map_toArray, List.map_cons, List.map_nil]); first | done | rfl | (simp only [List.length_drop, List.length_take]; rfl)) : p_ := h_
theorem kz10_3 {p_ : Prop} (h_ : p_ := by first | (with_reducible assumption) | assumption) : p_ := h_
theorem kz10_4 {p_ : Prop} (h_ : p_ := by (with_reducible repeat (first | apply Kd.R_alloc | apply Kd.R_drewN | apply Kd.R_drew)); exact HO_5.out) : p_ := h_
theorem kz10_5 {p_ : Prop} (h_ : p_ := by (with_reducible repeat (first | apply Kd.R_alloc | apply Kd.R_drewN | apply Kd.R_drew)); exact HO_12.out) : p_ := h_
theorem kz10_6 {p_ : Prop} (h_ : p_ := by (with_reducible repeat (first | apply Kd.R_alloc | apply Kd.R_drewN | apply Kd.R_drew)); exact HO_6.out) : p_ := h_
theorem kz10_7 {p_ : Prop} (h_ : p_ := by first | rfl | (simp; done) | (simp [*]; done)) : p_ := h_

/-! ### tumbrelref09_Ints: function 48 -/
def tumbrelref09_Ints.l0 : Nat → List Int → List Int → Int → Int → Option (Bool)
 | 0, _, _, _, _ => none
 | k + 1, x0, x1, x12, x13 => if x13 < x12 then (if 0 ≤ x13 then (if x13 < (x0.length : Int) then (if x13 < (x1.length : Int) then (if (rd x0 x13) = (rd x1 x13) then (tumbrelref09_Ints.l0 k x0 x1 x12 (wrap64 (x13 + 1))) else (some false)) else (none)) else (none)) else (none)) else (some true)
def tumbrelref09_Ints.f (k : Nat) (l0 : List Int) (l1 : List Int) : Option (Bool) := if (l0.length : Int) = (l1.length : Int) then (tumbrelref09_Ints.l0 k l0 l1 (l0.length : Int) 0) else (some false)
theorem tumbrelref09_Ints.mono_l : ∀ k, (∀ y0 y1 y2 y3, LeO (tumbrelref09_Ints.l0 k y0 y1 y2 y3) (tumbrelref09_Ints.l0 (k + 1) y0 y1 y2 y3))
 | 0 => fun _ _ _ _ r h => by simp [tumbrelref09_Ints.l0] at h
 | k + 1 => by
  have ih0 := tumbrelref09_Ints.mono_l k
  ·intro y0 y1 y2 y3
   unfold tumbrelref09_Ints.l0
   repeat' first
   | (with_reducible exact ih0 _ _ _ _)
   | (with_reducible exact LeO.refl _)
   | (with_reducible exact LeO.none _)
   | (with_reducible refine LeO.ite ?_ ?_)
   | (with_reducible refine LeO.bind ?_ (fun _ => ?_))
   | exact ih0 _ _ _ _
   | exact LeO.none _
   | refine LeO.ite ?_ ?_
   | refine LeO.bind ?_ (fun _ => ?_)
theorem tumbrelref09_Ints.mono : ∀ a0 a1 k, LeO (tumbrelref09_Ints.f k a0 a1) (tumbrelref09_Ints.f (k + 1) a0 a1) := by
 intro a0 a1 k
 have ih0 := tumbrelref09_Ints.mono_l k
 unfold tumbrelref09_Ints.f
 repeat' first
   | (with_reducible exact ih0 _ _ _ _)
   | (with_reducible exact LeO.refl _)
   | (with_reducible exact LeO.none _)
   | (with_reducible refine LeO.ite ?_ ?_)
   | (with_reducible refine LeO.bind ?_ (fun _ => ?_))
   | exact ih0 _ _ _ _
   | exact LeO.none _
   | refine LeO.ite ?_ ?_
   | refine LeO.bind ?_ (fun _ => ?_)
set_option maxHeartbeats 8000000 in
set_option maxRecDepth 100000 in
theorem tumbrelref09_Ints.calls (k : Nat) (A0 : Option Addr) (c0 : Nat) (l0 : List Int) (A1 : Option Addr) (c1 : Nat) (l1 : List Int) (r : Bool) (w : World) (hr0 : Kd.C (Kd.int .i64) w A0 l0.length l0) (hc0 : l0.length ≤ c0) (hr1 : Kd.C (Kd.int .i64) w A1 l1.length l1) (hc1 : l1.length ≤ c1) (h : tumbrelref09_Ints.f k l0 l1 = some r) :
  Calls Try.prog 48 #[.slice A0 l0.length c0, .slice A1 l1.length c1] w fun e w' => e = .returned (.bool r) ∧ Drawn0 w w' := by
 have HR0 := Aside0.mk hr0
 have HC0 := Aside0.mk hc0
 clear hr0 hc0
 have HR1 := Aside0.mk hr1
 have HC1 := Aside0.mk hc1
 clear hr1 hc1
 have H : (if (l0.length : Int) = (l1.length : Int) then (tumbrelref09_Ints.l0 k l0 l1 (l0.length : Int) 0) else (some false)) = some r := h
 clear h
 by_cases c3 : (l0.length : Int) = (l1.length : Int)
 ·rw [if_pos c3] at H
  have c3b0 : ((l0.length : Int) == (l1.length : Int)) = true := beq_iff_eq.mpr c3
  have c3b1 : ((l0.length : Int) != (l1.length : Int)) = false := bne_eq_false_iff_eq.mpr c3
  have c3b2 : (l0.length == l1.length) = true := by first | simpa using c3 | (simp at c3 ⊢; omega)
  clear c3
  have H' := Aside0.mk H
  clear H
  go_enter Try.func48, Try.ntmps48
  go_wp2
  repeat (go_quiet (fail); try go_wp2)
  go_loopg [13] k (fun kq v13 w' => ∃ (x13_1 : Int), v13 = .int .i64 x13_1 ∧ Aside0 (tumbrelref09_Ints.l0 kq l0 l1 (l0.length : Int) x13_1 = some r) ∧ Aside0 (kq ≤ k) ∧ Drawn0 w w')
  case atStart => exact ⟨(0), kz10_7, H', ⟨Nat.le_refl _⟩, by repeat (first | exact Drawn0.refl _ | apply Drawn0.step)⟩
  case round =>
   clear H'
   try clear c1
   try clear p2
   try clear c3
   try clear c3b0
   try clear c3b1
   try clear c3b2
   obtain ⟨x13_1, rfl, HA, HK1, ⟨m1, rfl⟩⟩ := hrel
   cases gk with
   | zero => exact absurd HA.out (by simp [tumbrelref09_Ints.l0])
   | succ k1 =>
    have H := HA.out
    clear HA
    simp only [tumbrelref09_Ints.l0] at H
    by_cases c4 : x13_1 < (l0.length : Int)
    ·rw [if_pos c4] at H
     have c4b0 : decide (x13_1 < (l0.length : Int)) = true := decide_eq_true c4
     clear c4
     by_cases c5 : 0 ≤ x13_1
     ·rw [if_pos c5] at H
      have c5b0 : decide (0 ≤ x13_1) = true := decide_eq_true c5
      clear c5
      by_cases c6 : x13_1 < (l0.length : Int)
      ·rw [if_pos c6] at H
       have c6b0 : decide (x13_1 < (l0.length : Int)) = true := decide_eq_true c6
       clear c6
       by_cases c7 : x13_1 < (l1.length : Int)
       ·rw [if_pos c7] at H
        have c7b0 : decide (x13_1 < (l1.length : Int)) = true := decide_eq_true c7
        clear c7
        by_cases c8 : (rd l0 x13_1) = (rd l1 x13_1)
        ·rw [if_pos c8] at H
         have c8b0 : ((rd l0 x13_1) == (rd l1 x13_1)) = true := beq_iff_eq.mpr c8
         have c8b1 : ((rd l0 x13_1) != (rd l1 x13_1)) = false := bne_eq_false_iff_eq.mpr c8
         clear c8
         have H' := Aside0.mk H
         clear H
         have p230 : 0 ≤ (x13_1 : Int) := of_decide_eq_true kz10_3
         have q230 : x13_1 < (l0.length : Int) := of_decide_eq_true kz10_3
         obtain ⟨ad230, e230, hx230_0⟩ := Kd.at_int HR0.out x13_1 p230 q230
         cases e230
         replace p230 := eq_true p230
         replace q230 := eq_true q230
         have p231 : 0 ≤ (x13_1 : Int) := of_decide_eq_true kz10_3
         have q231 : x13_1 < (l1.length : Int) := of_decide_eq_true kz10_3
         obtain ⟨ad231, e231, hx231_0⟩ := Kd.at_int HR1.out x13_1 p231 q231
         cases e231
         replace p231 := eq_true p231
         replace q231 := eq_true q231
         go_wp2
         repeat (go_quiet (fail); try go_wp2)
         go_roundg k1
         case measure => have := HK1.out; omega
         case rel => exact ⟨(wrap64 (x13_1 + 1)), kz10_7, H', ⟨by have := HK1.out; omega⟩, by repeat (first | exact Drawn0.refl _ | apply Drawn0.step)⟩
        ·rw [if_neg c8] at H
         have c8b0 : ((rd l0 x13_1) == (rd l1 x13_1)) = false := beq_eq_false_iff_ne.mpr c8
         have c8b1 : ((rd l0 x13_1) != (rd l1 x13_1)) = true := bne_iff_ne.mpr c8
         obtain rfl := Option.some.inj H
         have p230 : 0 ≤ (x13_1 : Int) := of_decide_eq_true kz10_3
         have q230 : x13_1 < (l0.length : Int) := of_decide_eq_true kz10_3
         obtain ⟨ad230, e230, hx230_0⟩ := Kd.at_int HR0.out x13_1 p230 q230
         cases e230
         replace p230 := eq_true p230
         replace q230 := eq_true q230
         have p231 : 0 ≤ (x13_1 : Int) := of_decide_eq_true kz10_3
         have q231 : x13_1 < (l1.length : Int) := of_decide_eq_true kz10_3
         obtain ⟨ad231, e231, hx231_0⟩ := Kd.at_int HR1.out x13_1 p231 q231
         cases e231
         replace p231 := eq_true p231
         replace q231 := eq_true q231
         go_wp2
         repeat (go_quiet (fail); try go_wp2)
         go_ret
         exact ⟨by first | rfl | (simp; done) | (simp [*]; done), by repeat (first | exact Drawn0.refl _ | apply Drawn0.step)⟩
       ·rw [if_neg c7] at H
        exact absurd H (by simp)
      ·rw [if_neg c6] at H
       exact absurd H (by simp)
     ·rw [if_neg c5] at H
      exact absurd H (by simp)
    ·rw [if_neg c4] at H
     have c4b0 : decide (x13_1 < (l0.length : Int)) = false := decide_eq_false c4
     clear c4
     obtain rfl := Option.some.inj H
     go_wp2
     repeat (go_quiet (fail); try go_wp2)
     go_ret
     exact ⟨by first | rfl | (simp; done) | (simp [*]; done), by repeat (first | exact Drawn0.refl _ | apply Drawn0.step)⟩
 ·rw [if_neg c3] at H
  have c3b0 : ((l0.length : Int) == (l1.length : Int)) = false := beq_eq_false_iff_ne.mpr c3
  have c3b1 : ((l0.length : Int) != (l1.length : Int)) = true := bne_iff_ne.mpr c3
  have c3b2 : (l0.length == l1.length) = false := by first | simpa using c3 | (simp at c3 ⊢; omega)
  obtain rfl := Option.some.inj H
  go_enter Try.func48, Try.ntmps48
  go_wp2
  repeat (go_quiet (fail); try go_wp2)
  go_ret
  exact ⟨by first | rfl | (simp; done) | (simp [*]; done), by repeat (first | exact Drawn0.refl _ | apply Drawn0.step)⟩

/-! ### config_formed: function 92 -/
def config_formed.f (k : Nat) (l0 : List (S86)) (a1 : Int) : Option (Bool) := if a1 ≥ 0 then (if a1 < (l0.length : Int) then ((tree_Formed.f k l0).bind fun t232 => (some t232)) else (some false)) else (some false)
theorem config_formed.mono : ∀ a0 a1 k, LeO (config_formed.f k a0 a1) (config_formed.f (k + 1) a0 a1) := by
 intro a0 a1 k
 unfold config_formed.f
 repeat' first
   | (with_reducible exact tree_Formed.mono _ _)
   | (with_reducible exact LeO.refl _)
   | (with_reducible exact LeO.none _)
   | (with_reducible refine LeO.ite ?_ ?_)
   | (with_reducible refine LeO.bind ?_ (fun _ => ?_))
   | exact tree_Formed.mono _ _
   | exact LeO.none _
   | refine LeO.ite ?_ ?_
   | refine LeO.bind ?_ (fun _ => ?_)
set_option maxHeartbeats 8000000 in
set_option maxRecDepth 100000 in
theorem config_formed.calls (k : Nat) (A0 : Option Addr) (c0 : Nat) (l0 : List (S86)) (a1 : Int) (r : Bool) (w : World) (hr0 : Kd.C k86 w A0 l0.length l0) (hc0 : l0.length ≤ c0) (h : config_formed.f k l0 a1 = some r) :
  Calls Try.prog 92 #[.slice A0 l0.length c0, .int .i64 a1] w fun e w' => e = .returned (.bool r) ∧ Below w.heap.size w w' := by
 have HR0 := Aside0.mk hr0
 have HC0 := Aside0.mk hc0
 clear hr0 hc0
 have HB := Aside0.mk (Below.refl w.heap.size w)
 have H : (if a1 ≥ 0 then (if a1 < (l0.length : Int) then ((tree_Formed.f k l0).bind fun t232 => (some t232)) else (some false)) else (some false)) = some r := h
 clear h
 by_cases c3 : a1 ≥ 0
 ·rw [if_pos c3] at H
  have c3b0 : decide (0 ≤ a1) = true := decide_eq_true c3
  clear c3
  by_cases c4 : a1 < (l0.length : Int)
  ·rw [if_pos c4] at H
   have c4b0 : decide (a1 < (l0.length : Int)) = true := decide_eq_true c4
   clear c4
   replace H := Option.bind_eq_some_iff.mp H
   obtain ⟨t232, A50, H⟩ := H
   replace H : (some t232) = some r := H
   have A5 := Aside0.mk A50
   clear A50
   obtain rfl := Option.some.inj H
   go_enter Try.func92, Try.ntmps92
   go_wp2_with (first | (go_at_call 80; (with_reducible refine (tree_Formed.calls k _ _ l0 t232 _ ?side1 ?side2 A5.out).mono ?_); (case side1 => repeat (first | exact HR0.out | (with_reducible refine Kd.C_alloc ?_ _) | (with_reducible refine Kd.C_drewN ?_ _) | (with_reducible refine Kd.C_drew ?_))); (case side2 => exact HC0.out); rintro e w6 ⟨rfl, hb⟩; have n0_ := Aside0.mk (below_step kz10_1 hb); clear HB; have HB := n0_; clear n0_; (try clear hb); (try clear hb2); (try clear hk); (try clear hi)))
   go_ret
   exact ⟨by first | rfl | (simp [errW_none, errW_some] <;> rfl) | (simp [*, errW_none, errW_some] <;> rfl), by repeat (first | (with_reducible first | exact HB.out | apply below_alloc | apply pw_below_drewN | apply below_drew1) | exact HB.out)⟩
  ·rw [if_neg c4] at H
   have c4b0 : decide (a1 < (l0.length : Int)) = false := decide_eq_false c4
   clear c4
   obtain rfl := Option.some.inj H
   go_enter Try.func92, Try.ntmps92
   go_wp2
   go_ret
   exact ⟨by first | rfl | (simp [errW_none, errW_some] <;> rfl) | (simp [*, errW_none, errW_some] <;> rfl), by repeat (first | (with_reducible first | exact HB.out | apply below_alloc | apply pw_below_drewN | apply below_drew1) | exact HB.out)⟩
 ·rw [if_neg c3] at H
  have c3b0 : decide (0 ≤ a1) = false := decide_eq_false c3
  clear c3
  obtain rfl := Option.some.inj H
  go_enter Try.func92, Try.ntmps92
  go_wp2
  go_ret
  exact ⟨by first | rfl | (simp [errW_none, errW_some] <;> rfl) | (simp [*, errW_none, errW_some] <;> rfl), by repeat (first | (with_reducible first | exact HB.out | apply below_alloc | apply pw_below_drewN | apply below_drew1) | exact HB.out)⟩

/-! ### config_enter: function 93 -/
mutual
def config_enter.l0 : Nat → List (S86) → Int → List Int → List Int → Int → Int → Option (List Int)
 | 0, _, _, _, _, _, _ => none
 | k + 1, x0, x1, x5, x12, x13, x14 => if x14 < x13 then (if 0 ≤ x14 then (if x14 < (x12.length : Int) then ((config_enter.f k x0 (rd x12 x14)).bind fun t240 => (if x5.length + t240.length < 17592186044416 then ((some (x5 ++ t240 : List Int)).bind fun y243 => (if 0 ≤ x1 then (if x1 < (x0.length : Int) then (if (rd_T86 x0 x1).f4 = true then (config_enter.l0 k x0 x1 y243 x12 x13 (wrap64 (x14 + 1))) else (some y243)) else (none)) else (none))) else (none))) else (none)) else (none)) else (some x5)
def config_enter.f : Nat → List (S86) → Int → Option (List Int)
 | 0, _, _ => none
 | k + 1, l0, a1 => (tree_Inner.f k l0 a1).bind fun t236 => (config_enter.l0 k l0 a1 (([a1] : List Int)) t236 (t236.length : Int) 0)
end
theorem config_enter.mono_l : ∀ k, (∀ y0 y1, LeO (config_enter.f k y0 y1) (config_enter.f (k + 1) y0 y1)) ∧ (∀ y0 y1 y2 y3 y4 y5, LeO (config_enter.l0 k y0 y1 y2 y3 y4 y5) (config_enter.l0 (k + 1) y0 y1 y2 y3 y4 y5))
 | 0 => ⟨fun _ _ r h => by simp [config_enter.f] at h, fun _ _ _ _ _ _ r h => by simp [config_enter.l0] at h⟩
 | k + 1 => by
  obtain ⟨ih0, ih1⟩ := config_enter.mono_l k
  refine ⟨?_, ?_⟩
  ·intro y0 y1
   unfold config_enter.f
   repeat' first
   | (with_reducible exact ih0 _ _)
   | (with_reducible exact ih1 _ _ _ _ _ _)
   | (with_reducible exact tree_Inner.mono _ _ _)
   | (with_reducible exact LeO.refl _)
   | (with_reducible exact LeO.none _)
   | (with_reducible refine LeO.ite ?_ ?_)
   | (with_reducible refine LeO.bind ?_ (fun _ => ?_))
   | exact ih0 _ _
   | exact ih1 _ _ _ _ _ _
   | exact tree_Inner.mono _ _ _
   | exact LeO.none _
   | refine LeO.ite ?_ ?_
   | refine LeO.bind ?_ (fun _ => ?_)
  ·intro y0 y1 y2 y3 y4 y5
   unfold config_enter.l0
   repeat' first
   | (with_reducible exact ih0 _ _)
   | (with_reducible exact ih1 _ _ _ _ _ _)
   | (with_reducible exact tree_Inner.mono _ _ _)
   | (with_reducible exact LeO.refl _)
   | (with_reducible exact LeO.none _)
   | (with_reducible refine LeO.ite ?_ ?_)
   | (with_reducible refine LeO.bind ?_ (fun _ => ?_))
   | exact ih0 _ _
   | exact ih1 _ _ _ _ _ _
   | exact tree_Inner.mono _ _ _
   | exact LeO.none _
   | refine LeO.ite ?_ ?_
   | refine LeO.bind ?_ (fun _ => ?_)
theorem config_enter.mono : ∀ a0 a1 k, LeO (config_enter.f k a0 a1) (config_enter.f (k + 1) a0 a1) := by
 intro a0 a1 k
 obtain ⟨ih0, ih1⟩ := config_enter.mono_l k
 exact ih0 a0 a1
set_option maxHeartbeats 8000000 in
set_option maxRecDepth 100000 in
theorem config_enter.calls (k : Nat) : ∀ (A0 : Option Addr) (c0 : Nat) (l0 : List (S86)) (a1 : Int) (r : List Int) (w : World) (hr0 : Kd.C k86 w A0 l0.length l0) (hc0 : l0.length ≤ c0) (h : config_enter.f k l0 a1 = some r),
  Calls Try.prog 93 #[.slice A0 l0.length c0, .int .i64 a1] w fun e w' => ∃ v0_ : Value, e = .returned (v0_) ∧ Kd.R (Kd.int .i64) 3 w' w.heap.size (fun _ => True) v0_ r ∧ Below w.heap.size w w' := by
 induction k using Nat.strongRecOn with
 | _ k ih =>
 intro A0 c0 l0 a1 r w hr0 hc0 h
 cases k with
 | zero => exact absurd h (by simp [config_enter.f])
 | succ k =>
 simp only [config_enter.f] at h
 have HR0 := Aside0.mk hr0
 have HC0 := Aside0.mk hc0
 clear hr0 hc0
 have HB := Aside0.mk (Below.refl w.heap.size w)
 have H : ((tree_Inner.f k l0 a1).bind fun t236 => (config_enter.l0 k l0 a1 (([a1] : List Int)) t236 (t236.length : Int) 0)) = some r := h
 clear h
 obtain ⟨y233, hy233⟩ : ∃ y_ : List Int, y_ = (([a1] : List Int)) := ⟨_, rfl⟩
 replace H : ((tree_Inner.f k l0 a1).bind fun t236 => (config_enter.l0 k l0 a1 y233 t236 (t236.length : Int) 0)) = some r := by first | (rw [hy233]; with_reducible exact H) | (have H2_ := (Option.bind_some _ _).symm.trans H; rw [hy233]; with_reducible exact H2_) | (have H2_ := (Option.bind_some _ _).symm.trans H; with_reducible exact H2_) | with_reducible exact H | (rw [hy233]; exact H) | exact H
 have Ny233 := Aside0.mk hy233
 clear hy233
 replace H := Option.bind_eq_some_iff.mp H
 obtain ⟨t236, A30, H⟩ := H
 replace H : (config_enter.l0 k l0 a1 y233 t236 (t236.length : Int) 0) = some r := H
 have A3 := Aside0.mk A30
 clear A30
 have H' := Aside0.mk H
 clear H
 go_enter Try.func93, Try.ntmps93
 go_wp2_with (first | ((with_reducible refine gate_dst (N := 9) rfl ?_); refine Kd.R_lit (Kd.int .i64) _ 3 ?hg (N := 9) ?hd (xs := ([a1] : List Int)) (inner := [.int .i64 a1]) (ok := fun _ => True) (okp := fun _ => True) ?hr ?hp (fun _ hk => hk) trivial (Below.refl _ _) (Nat.le_refl _) (by simp) ?_; (case hd => rfl); (case hg => rfl); (case hr => first | (go_simp; done) | (go_simp; rfl)); (case hp => exact (Reps.one (show Kd.M (Kd.int .i64) _ _ _ a1 [.int .i64 a1] from rfl) (Reps.none _ _))); intro v234 w4 ho5 hb hg_ hnew_; clear hg_ hnew_; (first | rw [← Ny233.out] at ho5 | (simp only [Int.reduceToNat] at ho5; rw [← Ny233.out] at ho5)); have n0_ := Aside0.mk (Kd.R_lower ho5 (below_size kz10_1)); have n1_ := Aside0.mk (below_step kz10_1 hb); clear HB; have HO235 := n0_; have HB := n1_; clear n0_ n1_; clear hb ho5) | ((with_reducible refine gate_callee (f := 85) rfl ?_); refine goesL_ (some 12) rfl rfl Try.func85 (by kernel_rfl) rfl #[.slice A0 l0.length c0, .int .i64 a1] rfl kz10_2 ?_; (with_reducible refine (tree_Inner.calls k _ _ l0 a1 t236 _ ?side1 ?side2 A3.out).mono ?_); (case side1 => repeat (first | exact (Kd.C_below HR0.out HB.out) | (with_reducible refine Kd.C_alloc ?_ _) | (with_reducible refine Kd.C_drewN ?_ _) | (with_reducible refine Kd.C_drew ?_))); (case side2 => exact HC0.out); rintro e w6 ⟨v237, rfl, ho0, hb⟩; refine ⟨_, rfl, ?_⟩; have n0_ := Aside0.mk (Kd.R_elder' (by (with_reducible repeat (first | apply Kd.R_alloc | apply Kd.R_drewN | apply Kd.R_drew)); exact HO235.out) (Kd.R_base ho0) hb); have n1_ := Aside0.mk (Kd.R_lower (Kd.R_new' ho0 (Kd.R_lt (by (with_reducible repeat (first | apply Kd.R_alloc | apply Kd.R_drewN | apply Kd.R_drew)); exact HO235.out))) (below_size kz10_1)); have n2_ := Aside0.mk (below_step kz10_1 hb); clear HO235; clear HB; have HO235 := n0_; have HO238 := n1_; have HB := n2_; clear n0_ n1_ n2_; (try clear hb); (try clear hb2); (try clear hk); (try clear hi); (try clear ho0); obtain ⟨Ao7, co7, eo7⟩ := Kd.R_slice HO238.out; subst eo7))
 go_loopg [5, 14] k (fun kq v5 v14 w' => ∃ (x5_1 : List Int) (x14_1 : Int), v14 = .int .i64 x14_1 ∧ Aside0 (config_enter.l0 kq l0 a1 x5_1 t236 (t236.length : Int) x14_1 = some r) ∧ Aside0 (kq ≤ k) ∧ Aside0 (Kd.R (Kd.int .i64) 3 w' w.heap.size (fun k_ => some k_ ≠ ((.slice Ao7 t236.length co7) : Value).ownBlock) v5 x5_1) ∧ Aside0 (Kd.R (Kd.int .i64) 3 w' w.heap.size (fun k_ => some k_ ≠ (v5 : Value).ownBlock) (.slice Ao7 t236.length co7) t236) ∧ Aside0 (Below w.heap.size w w'))
 case atStart => exact ⟨(y233), (0), kz10_7, H', ⟨Nat.le_refl _⟩, ⟨by (with_reducible repeat (first | apply Kd.R_alloc | apply Kd.R_drewN | apply Kd.R_drew)); exact Kd.R_mono HO235.out (fun _ hk => hk.2)⟩, ⟨by (with_reducible repeat (first | apply Kd.R_alloc | apply Kd.R_drewN | apply Kd.R_drew)); exact Kd.R_mono HO238.out (fun _ hk => hk.2)⟩, ⟨by repeat (first | (with_reducible first | exact HB.out | apply below_alloc | apply pw_below_drewN | apply below_drew1) | exact HB.out)⟩⟩
 case round =>
  clear H'
  try clear p2
  obtain ⟨x5_1, x14_1, rfl, HA, HK1, HO_5, HO_12, HB⟩ := hrel
  cases gk with
  | zero => exact absurd HA.out (by simp [config_enter.l0])
  | succ k1 =>
   have H := HA.out
   clear HA
   simp only [config_enter.l0] at H
   by_cases c8 : x14_1 < (t236.length : Int)
   ·rw [if_pos c8] at H
    have c8b0 : decide (x14_1 < (t236.length : Int)) = true := decide_eq_true c8
    clear c8
    by_cases c9 : 0 ≤ x14_1
    ·rw [if_pos c9] at H
     have c9b0 : decide (0 ≤ x14_1) = true := decide_eq_true c9
     clear c9
     by_cases c10 : x14_1 < (t236.length : Int)
     ·rw [if_pos c10] at H
      have c10b0 : decide (x14_1 < (t236.length : Int)) = true := decide_eq_true c10
      clear c10
      replace H := Option.bind_eq_some_iff.mp H
      obtain ⟨t240, A110, H⟩ := H
      replace H : (if x5_1.length + t240.length < 17592186044416 then ((some (x5_1 ++ t240 : List Int)).bind fun y243 => (if 0 ≤ a1 then (if a1 < (l0.length : Int) then (if (rd_T86 l0 a1).f4 = true then (config_enter.l0 k1 l0 a1 y243 t236 (t236.length : Int) (wrap64 (x14_1 + 1))) else (some y243)) else (none)) else (none))) else (none)) = some r := H
      have A11 := Aside0.mk A110
      clear A110
      by_cases c12 : x5_1.length + t240.length < 17592186044416
      ·rw [if_pos c12] at H
       have LMc12 := Aside0.mk c12
       clear c12
       obtain ⟨y243, hy243⟩ : ∃ y_ : List Int, y_ = (x5_1 ++ t240) := ⟨_, rfl⟩
       replace H : (if 0 ≤ a1 then (if a1 < (l0.length : Int) then (if (rd_T86 l0 a1).f4 = true then (config_enter.l0 k1 l0 a1 y243 t236 (t236.length : Int) (wrap64 (x14_1 + 1))) else (some y243)) else (none)) else (none)) = some r := by first | (rw [hy243]; with_reducible exact H) | (have H2_ := (Option.bind_some _ _).symm.trans H; rw [hy243]; with_reducible exact H2_) | (have H2_ := (Option.bind_some _ _).symm.trans H; with_reducible exact H2_) | with_reducible exact H | (rw [hy243]; exact H) | exact H
       have Ny243 := Aside0.mk hy243
       clear hy243
       by_cases c13 : 0 ≤ a1
       ·rw [if_pos c13] at H
        have c13b0 : decide (0 ≤ a1) = true := decide_eq_true c13
        clear c13
        by_cases c14 : a1 < (l0.length : Int)
        ·rw [if_pos c14] at H
         have c14b0 : decide (a1 < (l0.length : Int)) = true := decide_eq_true c14
         clear c14
         obtain ⟨bq15, hbq15⟩ : ∃ b_ : Bool, b_ = ((rd_T86 l0 a1).f4) := ⟨_, rfl⟩
         replace H : (if bq15 = true then (config_enter.l0 k1 l0 a1 y243 t236 (t236.length : Int) (wrap64 (x14_1 + 1))) else (some y243)) = some r := by rw [← hbq15] at H; exact H
         have Nbq15 := Aside0.mk hbq15
         clear hbq15
         by_cases c16 : bq15 = true
         ·subst c16
          have H1 : (config_enter.l0 k1 l0 a1 y243 t236 (t236.length : Int) (wrap64 (x14_1 + 1))) = some r := by rw [if_pos rfl] at H; exact H
          clear H
          have H := H1
          clear H1
          have H' := Aside0.mk H
          clear H
          have p239 : 0 ≤ (x14_1 : Int) := of_decide_eq_true kz10_3
          have q239 : x14_1 < (t236.length : Int) := of_decide_eq_true kz10_3
          obtain ⟨ad239, e239, hx239_0⟩ := Kd.at_int (Kd.R_reads' HO_12.out).2.2 x14_1 p239 q239
          cases e239
          replace p239 := eq_true p239
          replace q239 := eq_true q239
          go_wp2_with (first | ((with_reducible refine gate_callee (f := 93) rfl ?_); refine goesL_ (some 21) rfl rfl Try.func93 (by kernel_rfl) rfl #[.slice A0 l0.length c0, .int .i64 (rd t236 x14_1)] rfl kz10_2 ?_; (with_reducible refine (ih k1 (by have := HK1.out; omega) _ _ l0 (rd t236 x14_1) t240 _ ?side1 ?side2 A11.out).mono ?_); (case side1 => repeat (first | exact (Kd.C_below HR0.out HB.out) | (with_reducible refine Kd.C_alloc ?_ _) | (with_reducible refine Kd.C_drewN ?_ _) | (with_reducible refine Kd.C_drew ?_))); (case side2 => exact HC0.out); rintro e w17 ⟨v241, rfl, ho0, hb⟩; refine ⟨_, rfl, ?_⟩; have n0_ := Aside0.mk (Kd.R_elder' kz10_4 (Kd.R_base ho0) hb); have n1_ := Aside0.mk (Kd.R_elder' kz10_5 (Kd.R_base ho0) hb); have n2_ := Aside0.mk (Kd.R_lower (Kd.R_new' (Kd.R_new' ho0 (Kd.R_lt kz10_4)) (Kd.R_lt kz10_5)) (below_size kz10_1)); have n3_ := Aside0.mk (below_step kz10_1 hb); clear HO_5; clear HO_12; clear HB; have HO_5 := n0_; have HO_12 := n1_; have HO242 := n2_; have HB := n3_; clear n0_ n1_ n2_ n3_; (try clear hb); (try clear hb2); (try clear hk); (try clear hi); (try clear ho0); obtain ⟨Ao19, co19, eo19⟩ := Kd.R_slice HO242.out; subst eo19) | ((with_reducible refine gate_builtin (b := .append) (xs := #[.tmp 18, .tmp 21]) rfl ?_); at_builtin; refine Kd.R_append_rows (Kd.int .i64) (w0 := w) w.heap.size rfl (.tmp 18) (.tmp 21) 65 3 (.int .i64 0) 8 rfl Try.underlying65 info3 rfl (by decide) (by omega) u5 x5_1 t240 _ _ _ (fun k_ => some k_ ≠ (.slice (some ad239) t236.length co7 : Value).ownBlock ∧ some k_ ≠ (.slice Ao19 t240.length co19 : Value).ownBlock) (fun _ => False) rfl rfl ?aO ?aR (fun _ _ h => h) (fun _ h => h.elim) ?aF ?aB ?aS ?aL ?_; (case aR => repeat (first | exact (Kd.R_reads' HO242.out).2.2 | (with_reducible refine Kd.C_alloc ?_ _) | (with_reducible refine Kd.C_drewN ?_ _) | (with_reducible refine Kd.C_drew ?_))); (case aB => exact kz10_1); (case aF => exact (fun k_ hk => ⟨Kd.fresh' (Kd.R_lt kz10_5) k_ hk, Kd.fresh' (Kd.R_lt (by (with_reducible repeat (first | apply Kd.R_alloc | apply Kd.R_drewN | apply Kd.R_drew)); exact HO242.out)) k_ hk⟩)); (case aO => exact kz10_4); (case aS => exact (below_size kz10_1)); (case aL => have := LMc12.out; omega); intro v244 w18 ho hb hg hat; rw [← Ny243.out] at ho; have n0_ := Aside0.mk (Kd.R_after (ok := (fun k_ => some k_ ≠ (.slice Ao19 t240.length co19 : Value).ownBlock)) (by (with_reducible repeat (first | apply Kd.R_alloc | apply Kd.R_drewN | apply Kd.R_drew)); exact Kd.R_mono HO_12.out (fun _ hk => ⟨hk.2, hk.1⟩)) hg hat); have n1_ := Aside0.mk (Kd.R_after (ok := (fun k_ => some k_ ≠ (.slice (some ad239) t236.length co7 : Value).ownBlock)) (by (with_reducible repeat (first | apply Kd.R_alloc | apply Kd.R_drewN | apply Kd.R_drew)); exact Kd.R_mono HO242.out (fun _ hk => ⟨hk.2, hk.1.2⟩)) hg hat); have n2_ := Aside0.mk (hb); have n3_ := Aside0.mk (ho); clear HO_12; clear HO242; clear HB; clear HO_5; have HO_12 := n0_; have HO242 := n1_; have HB := n2_; have HO245 := n3_; clear n0_ n1_ n2_ n3_; clear ho hb hg hat; have p246 : 0 ≤ (a1 : Int) := of_decide_eq_true kz10_3; have q246 : a1 < (l0.length : Int) := of_decide_eq_true kz10_3; obtain ⟨ad246, e246, hx246_0, hx246_1, hx246_2, hx246_3, hx246_4, hx246_5, hx246_6⟩ := at_T86 HR0.out a1 p246 q246; (try rw [← Nbq15.out] at hx246_4); (try rw [← Nbq15.out] at hx246_5); (try rw [← Nbq15.out] at hx246_6); cases e246; replace hx246_0 := (HB.out.cell (World.block_lt_of_cell? w _ hx246_0)).trans hx246_0; replace hx246_1 := (HB.out.cell (World.block_lt_of_cell? w _ hx246_1)).trans hx246_1; replace hx246_2 := (HB.out.cell (World.block_lt_of_cell? w _ hx246_2)).trans hx246_2; replace hx246_3 := (HB.out.cell (World.block_lt_of_cell? w _ hx246_3)).trans hx246_3; replace hx246_4 := (HB.out.cell (World.block_lt_of_cell? w _ hx246_4)).trans hx246_4; replace hx246_5 := (HB.out.cell (World.block_lt_of_cell? w _ hx246_5)).trans hx246_5; replace hx246_6 := (HB.out.cell (World.block_lt_of_cell? w _ hx246_6)).trans hx246_6; replace p246 := eq_true p246; replace q246 := eq_true q246))
          go_roundg k1
          case measure => have := HK1.out; omega
          case rel => exact ⟨(y243), (wrap64 (x14_1 + 1)), kz10_7, H', ⟨by have := HK1.out; omega⟩, ⟨by (with_reducible repeat (first | apply Kd.R_alloc | apply Kd.R_drewN | apply Kd.R_drew)); exact Kd.R_mono HO245.out (fun _ hk => hk.1)⟩, ⟨by (with_reducible repeat (first | apply Kd.R_alloc | apply Kd.R_drewN | apply Kd.R_drew)); exact Kd.R_mono HO_12.out (fun _ hk => hk.2)⟩, ⟨by repeat (first | (with_reducible first | exact HB.out | apply below_alloc | apply pw_below_drewN | apply below_drew1) | exact HB.out)⟩⟩
         ·replace c16 := Bool.eq_false_iff.mpr c16
          subst c16
          have H1 : (some y243) = some r := by rw [if_neg (show ¬ (false = true) by decide)] at H; exact H
          clear H
          have H := H1
          clear H1
          obtain rfl := Option.some.inj H
          have p239 : 0 ≤ (x14_1 : Int) := of_decide_eq_true kz10_3
          have q239 : x14_1 < (t236.length : Int) := of_decide_eq_true kz10_3
          obtain ⟨ad239, e239, hx239_0⟩ := Kd.at_int (Kd.R_reads' HO_12.out).2.2 x14_1 p239 q239
          cases e239
          replace p239 := eq_true p239
          replace q239 := eq_true q239
          go_wp2_with (first | ((with_reducible refine gate_callee (f := 93) rfl ?_); refine goesL_ (some 21) rfl rfl Try.func93 (by kernel_rfl) rfl #[.slice A0 l0.length c0, .int .i64 (rd t236 x14_1)] rfl kz10_2 ?_; (with_reducible refine (ih k1 (by have := HK1.out; omega) _ _ l0 (rd t236 x14_1) t240 _ ?side1 ?side2 A11.out).mono ?_); (case side1 => repeat (first | exact (Kd.C_below HR0.out HB.out) | (with_reducible refine Kd.C_alloc ?_ _) | (with_reducible refine Kd.C_drewN ?_ _) | (with_reducible refine Kd.C_drew ?_))); (case side2 => exact HC0.out); rintro e w20 ⟨v241, rfl, ho0, hb⟩; refine ⟨_, rfl, ?_⟩; have n0_ := Aside0.mk (Kd.R_elder' kz10_4 (Kd.R_base ho0) hb); have n1_ := Aside0.mk (Kd.R_elder' kz10_5 (Kd.R_base ho0) hb); have n2_ := Aside0.mk (Kd.R_lower (Kd.R_new' (Kd.R_new' ho0 (Kd.R_lt kz10_4)) (Kd.R_lt kz10_5)) (below_size kz10_1)); have n3_ := Aside0.mk (below_step kz10_1 hb); clear HO_5; clear HO_12; clear HB; have HO_5 := n0_; have HO_12 := n1_; have HO242 := n2_; have HB := n3_; clear n0_ n1_ n2_ n3_; (try clear hb); (try clear hb2); (try clear hk); (try clear hi); (try clear ho0); obtain ⟨Ao22, co22, eo22⟩ := Kd.R_slice HO242.out; subst eo22) | ((with_reducible refine gate_builtin (b := .append) (xs := #[.tmp 18, .tmp 21]) rfl ?_); at_builtin; refine Kd.R_append_rows (Kd.int .i64) (w0 := w) w.heap.size rfl (.tmp 18) (.tmp 21) 65 3 (.int .i64 0) 8 rfl Try.underlying65 info3 rfl (by decide) (by omega) u5 x5_1 t240 _ _ _ (fun k_ => some k_ ≠ (.slice (some ad239) t236.length co7 : Value).ownBlock ∧ some k_ ≠ (.slice Ao22 t240.length co22 : Value).ownBlock) (fun _ => False) rfl rfl ?aO ?aR (fun _ _ h => h) (fun _ h => h.elim) ?aF ?aB ?aS ?aL ?_; (case aR => repeat (first | exact (Kd.R_reads' HO242.out).2.2 | (with_reducible refine Kd.C_alloc ?_ _) | (with_reducible refine Kd.C_drewN ?_ _) | (with_reducible refine Kd.C_drew ?_))); (case aB => exact kz10_1); (case aF => exact (fun k_ hk => ⟨Kd.fresh' (Kd.R_lt kz10_5) k_ hk, Kd.fresh' (Kd.R_lt (by (with_reducible repeat (first | apply Kd.R_alloc | apply Kd.R_drewN | apply Kd.R_drew)); exact HO242.out)) k_ hk⟩)); (case aO => exact kz10_4); (case aS => exact (below_size kz10_1)); (case aL => have := LMc12.out; omega); intro v244 w21 ho hb hg hat; rw [← Ny243.out] at ho; have n0_ := Aside0.mk (Kd.R_after (ok := (fun k_ => some k_ ≠ (.slice Ao22 t240.length co22 : Value).ownBlock)) (by (with_reducible repeat (first | apply Kd.R_alloc | apply Kd.R_drewN | apply Kd.R_drew)); exact Kd.R_mono HO_12.out (fun _ hk => ⟨hk.2, hk.1⟩)) hg hat); have n1_ := Aside0.mk (Kd.R_after (ok := (fun k_ => some k_ ≠ (.slice (some ad239) t236.length co7 : Value).ownBlock)) (by (with_reducible repeat (first | apply Kd.R_alloc | apply Kd.R_drewN | apply Kd.R_drew)); exact Kd.R_mono HO242.out (fun _ hk => ⟨hk.2, hk.1.2⟩)) hg hat); have n2_ := Aside0.mk (hb); have n3_ := Aside0.mk (ho); clear HO_12; clear HO242; clear HB; clear HO_5; have HO_12 := n0_; have HO242 := n1_; have HB := n2_; have HO245 := n3_; clear n0_ n1_ n2_ n3_; clear ho hb hg hat; have p246 : 0 ≤ (a1 : Int) := of_decide_eq_true kz10_3; have q246 : a1 < (l0.length : Int) := of_decide_eq_true kz10_3; obtain ⟨ad246, e246, hx246_0, hx246_1, hx246_2, hx246_3, hx246_4, hx246_5, hx246_6⟩ := at_T86 HR0.out a1 p246 q246; (try rw [← Nbq15.out] at hx246_4); (try rw [← Nbq15.out] at hx246_5); (try rw [← Nbq15.out] at hx246_6); cases e246; replace hx246_0 := (HB.out.cell (World.block_lt_of_cell? w _ hx246_0)).trans hx246_0; replace hx246_1 := (HB.out.cell (World.block_lt_of_cell? w _ hx246_1)).trans hx246_1; replace hx246_2 := (HB.out.cell (World.block_lt_of_cell? w _ hx246_2)).trans hx246_2; replace hx246_3 := (HB.out.cell (World.block_lt_of_cell? w _ hx246_3)).trans hx246_3; replace hx246_4 := (HB.out.cell (World.block_lt_of_cell? w _ hx246_4)).trans hx246_4; replace hx246_5 := (HB.out.cell (World.block_lt_of_cell? w _ hx246_5)).trans hx246_5; replace hx246_6 := (HB.out.cell (World.block_lt_of_cell? w _ hx246_6)).trans hx246_6; replace p246 := eq_true p246; replace q246 := eq_true q246))
          go_ret
          exact ⟨_, by first | rfl | (simp [errW_none, errW_some] <;> rfl) | (simp [*, errW_none, errW_some] <;> rfl), by (with_reducible repeat (first | apply Kd.R_alloc | apply Kd.R_drewN | apply Kd.R_drew)); exact Kd.R_mono HO245.out (fun _ hk => trivial), by repeat (first | (with_reducible first | exact HB.out | apply below_alloc | apply pw_below_drewN | apply below_drew1) | exact HB.out)⟩
        ·rw [if_neg c14] at H
         exact absurd H (by simp)
       ·rw [if_neg c13] at H
        exact absurd H (by simp)
      ·rw [if_neg c12] at H
       exact absurd H (by simp)
     ·rw [if_neg c10] at H
      exact absurd H (by simp)
    ·rw [if_neg c9] at H
     exact absurd H (by simp)
   ·rw [if_neg c8] at H
    have c8b0 : decide (x14_1 < (t236.length : Int)) = false := decide_eq_false c8
    clear c8
    obtain rfl := Option.some.inj H
    go_wp2
    go_ret
    exact ⟨_, by first | rfl | (simp [errW_none, errW_some] <;> rfl) | (simp [*, errW_none, errW_some] <;> rfl), by (with_reducible repeat (first | apply Kd.R_alloc | apply Kd.R_drewN | apply Kd.R_drew)); exact Kd.R_mono HO_5.out (fun _ hk => trivial), by repeat (first | (with_reducible first | exact HB.out | apply below_alloc | apply pw_below_drewN | apply below_drew1) | exact HB.out)⟩

/-! ### config_Start: function 49 -/
def config_Start.f (k : Nat) (l0 : List (S86)) : Option (List Int) := (config_formed.f k l0 0).bind fun t247 => (if t247 = true then ((config_enter.f k l0 0).bind fun t248 => (some t248)) else (some ([] : List Int)))
theorem config_Start.mono : ∀ a0 k, LeO (config_Start.f k a0) (config_Start.f (k + 1) a0) := by
 intro a0 k
 unfold config_Start.f
 repeat' first
   | (with_reducible exact config_enter.mono _ _ _)
   | (with_reducible exact config_formed.mono _ _ _)
   | (with_reducible exact LeO.refl _)
   | (with_reducible exact LeO.none _)
   | (with_reducible refine LeO.ite ?_ ?_)
   | (with_reducible refine LeO.bind ?_ (fun _ => ?_))
   | exact config_enter.mono _ _ _
   | exact config_formed.mono _ _ _
   | exact LeO.none _
   | refine LeO.ite ?_ ?_
   | refine LeO.bind ?_ (fun _ => ?_)
set_option maxHeartbeats 8000000 in
set_option maxRecDepth 100000 in
theorem config_Start.calls (k : Nat) (A0 : Option Addr) (c0 : Nat) (l0 : List (S86)) (r : List Int) (w : World) (hr0 : Kd.C k86 w A0 l0.length l0) (hc0 : l0.length ≤ c0) (h : config_Start.f k l0 = some r) :
  Calls Try.prog 49 #[.slice A0 l0.length c0] w fun e w' => ∃ v0_ : Value, e = .returned (v0_) ∧ Kd.R (Kd.int .i64) 3 w' w.heap.size (fun _ => True) v0_ r ∧ Below w.heap.size w w' := by
 have HR0 := Aside0.mk hr0
 have HC0 := Aside0.mk hc0
 clear hr0 hc0
 have HB := Aside0.mk (Below.refl w.heap.size w)
 have H : ((config_formed.f k l0 0).bind fun t247 => (if t247 = true then ((config_enter.f k l0 0).bind fun t248 => (some t248)) else (some ([] : List Int)))) = some r := h
 clear h
 replace H := Option.bind_eq_some_iff.mp H
 obtain ⟨t247, A20, H⟩ := H
 replace H : (if t247 = true then ((config_enter.f k l0 0).bind fun t248 => (some t248)) else (some ([] : List Int))) = some r := H
 have A2 := Aside0.mk A20
 clear A20
 by_cases c3 : t247 = true
 ·subst c3
  have H1 : ((config_enter.f k l0 0).bind fun t248 => (some t248)) = some r := by rw [if_pos rfl] at H; exact H
  clear H
  have H := H1
  clear H1
  replace H := Option.bind_eq_some_iff.mp H
  obtain ⟨t248, A40, H⟩ := H
  replace H : (some t248) = some r := H
  have A4 := Aside0.mk A40
  clear A40
  obtain rfl := Option.some.inj H
  go_enter Try.func49, Try.ntmps49
  go_wp2_with (first | ((with_reducible refine gate_callee (f := 92) rfl ?_); refine goesL_ (some 4) rfl rfl Try.func92 (by kernel_rfl) rfl #[.slice A0 l0.length c0, .int .i64 0] rfl kz10_2 ?_; (with_reducible refine (config_formed.calls k _ _ l0 0 true _ ?side1 ?side2 A2.out).mono ?_); (case side1 => repeat (first | exact HR0.out | (with_reducible refine Kd.C_alloc ?_ _) | (with_reducible refine Kd.C_drewN ?_ _) | (with_reducible refine Kd.C_drew ?_))); (case side2 => exact HC0.out); rintro e w5 ⟨rfl, hb⟩; refine ⟨_, rfl, ?_⟩; have n0_ := Aside0.mk (below_step kz10_1 hb); clear HB; have HB := n0_; clear n0_; (try clear hb); (try clear hb2); (try clear hk); (try clear hi)) | ((with_reducible refine gate_callee (f := 93) rfl ?_); refine goesL_ (some 7) rfl rfl Try.func93 (by kernel_rfl) rfl #[.slice A0 l0.length c0, .int .i64 0] rfl kz10_2 ?_; (with_reducible refine (config_enter.calls k _ _ l0 0 t248 _ ?side1 ?side2 A4.out).mono ?_); (case side1 => repeat (first | exact (Kd.C_below HR0.out HB.out) | (with_reducible refine Kd.C_alloc ?_ _) | (with_reducible refine Kd.C_drewN ?_ _) | (with_reducible refine Kd.C_drew ?_))); (case side2 => exact HC0.out); rintro e w6 ⟨v249, rfl, ho0, hb⟩; refine ⟨_, rfl, ?_⟩; have n0_ := Aside0.mk (Kd.R_lower ho0 (below_size kz10_1)); have n1_ := Aside0.mk (below_step kz10_1 hb); clear HB; have HO250 := n0_; have HB := n1_; clear n0_ n1_; (try clear hb); (try clear hb2); (try clear hk); (try clear hi); (try clear ho0)))
  go_ret
  exact ⟨_, by first | rfl | (simp [errW_none, errW_some] <;> rfl) | (simp [*, errW_none, errW_some] <;> rfl), by (with_reducible repeat (first | apply Kd.R_alloc | apply Kd.R_drewN | apply Kd.R_drew)); exact HO250.out, by repeat (first | (with_reducible first | exact HB.out | apply below_alloc | apply pw_below_drewN | apply below_drew1) | exact HB.out)⟩
 ·replace c3 := Bool.eq_false_iff.mpr c3
  subst c3
  have H1 : (some ([] : List Int)) = some r := by rw [if_neg (show ¬ (false = true) by decide)] at H; exact H
  clear H
  have H := H1
  clear H1
  obtain rfl := Option.some.inj H
  go_enter Try.func49, Try.ntmps49
  go_wp2_with (first | ((with_reducible refine gate_callee (f := 92) rfl ?_); refine goesL_ (some 4) rfl rfl Try.func92 (by kernel_rfl) rfl #[.slice A0 l0.length c0, .int .i64 0] rfl kz10_2 ?_; (with_reducible refine (config_formed.calls k _ _ l0 0 false _ ?side1 ?side2 A2.out).mono ?_); (case side1 => repeat (first | exact HR0.out | (with_reducible refine Kd.C_alloc ?_ _) | (with_reducible refine Kd.C_drewN ?_ _) | (with_reducible refine Kd.C_drew ?_))); (case side2 => exact HC0.out); rintro e w7 ⟨rfl, hb⟩; refine ⟨_, rfl, ?_⟩; have n0_ := Aside0.mk (below_step kz10_1 hb); clear HB; have HB := n0_; clear n0_; (try clear hb); (try clear hb2); (try clear hk); (try clear hi)))
  go_ret
  exact ⟨_, by first | rfl | (simp [errW_none, errW_some] <;> rfl) | (simp [*, errW_none, errW_some] <;> rfl), by first | exact Kd.R_nil _ _ _ _ _ | exact Kd.N_nil _ _ _ _ _ | exact Kd.V_nil _ _ _ _ _ | exact Kd.Q_nil _ _ _ _ _ | exact Kd.S_nil _ _ _ _ _, by repeat (first | (with_reducible first | exact HB.out | apply below_alloc | apply pw_below_drewN | apply below_drew1) | exact HB.out)⟩

/-! ### tumbrelref09_byDefault: function 94 -/
mutual
def tumbrelref09_byDefault.l0 : Nat → List (S140) → Int → List Int → List Int → Int → Int → Option (List Int)
 | 0, _, _, _, _, _, _ => none
 | k + 1, x0, x1, x5, x6, x14, x15 => if x15 < x14 then (if 0 ≤ x1 then (if x1 < (x0.length : Int) then (if (rd_T140 x0 x1).f4 = true then (if 0 ≤ x15 then (if x15 < (x6.length : Int) then ((tumbrelref09_byDefault.f k x0 (rd x6 x15)).bind fun t259 => (if x5.length + t259.length < 17592186044416 then (tumbrelref09_byDefault.l0 k x0 x1 (x5 ++ t259) x6 x14 (wrap64 (x15 + 1))) else (none))) else (none)) else (none)) else (if x15 = 0 then (if 0 ≤ x15 then (if x15 < (x6.length : Int) then ((tumbrelref09_byDefault.f k x0 (rd x6 x15)).bind fun t266 => (if x5.length + t266.length < 17592186044416 then (tumbrelref09_byDefault.l0 k x0 x1 (x5 ++ t266) x6 x14 (wrap64 (x15 + 1))) else (none))) else (none)) else (none)) else (tumbrelref09_byDefault.l0 k x0 x1 x5 x6 x14 (wrap64 (x15 + 1))))) else (none)) else (none)) else (some x5)
def tumbrelref09_byDefault.f : Nat → List (S140) → Int → Option (List Int)
 | 0, _, _ => none
 | k + 1, l0, a1 => (tumbrelref09_Inner.f k l0 a1).bind fun t254 => (tumbrelref09_byDefault.l0 k l0 a1 (([a1] : List Int)) t254 (t254.length : Int) 0)
end
theorem tumbrelref09_byDefault.mono_l : ∀ k, (∀ y0 y1, LeO (tumbrelref09_byDefault.f k y0 y1) (tumbrelref09_byDefault.f (k + 1) y0 y1)) ∧ (∀ y0 y1 y2 y3 y4 y5, LeO (tumbrelref09_byDefault.l0 k y0 y1 y2 y3 y4 y5) (tumbrelref09_byDefault.l0 (k + 1) y0 y1 y2 y3 y4 y5))
 | 0 => ⟨fun _ _ r h => by simp [tumbrelref09_byDefault.f] at h, fun _ _ _ _ _ _ r h => by simp [tumbrelref09_byDefault.l0] at h⟩
 | k + 1 => by
  obtain ⟨ih0, ih1⟩ := tumbrelref09_byDefault.mono_l k
  refine ⟨?_, ?_⟩
  ·intro y0 y1
   unfold tumbrelref09_byDefault.f
   repeat' first
   | (with_reducible exact ih0 _ _)
   | (with_reducible exact ih1 _ _ _ _ _ _)
   | (with_reducible exact tumbrelref09_Inner.mono _ _ _)
   | (with_reducible exact LeO.refl _)
   | (with_reducible exact LeO.none _)
   | (with_reducible refine LeO.ite ?_ ?_)
   | (with_reducible refine LeO.bind ?_ (fun _ => ?_))
   | exact ih0 _ _
   | exact ih1 _ _ _ _ _ _
   | exact tumbrelref09_Inner.mono _ _ _
   | exact LeO.none _
   | refine LeO.ite ?_ ?_
   | refine LeO.bind ?_ (fun _ => ?_)
  ·intro y0 y1 y2 y3 y4 y5
   unfold tumbrelref09_byDefault.l0
   repeat' first
   | (with_reducible exact ih0 _ _)
   | (with_reducible exact ih1 _ _ _ _ _ _)
   | (with_reducible exact tumbrelref09_Inner.mono _ _ _)
   | (with_reducible exact LeO.refl _)
   | (with_reducible exact LeO.none _)
   | (with_reducible refine LeO.ite ?_ ?_)
   | (with_reducible refine LeO.bind ?_ (fun _ => ?_))
   | exact ih0 _ _
   | exact ih1 _ _ _ _ _ _
   | exact tumbrelref09_Inner.mono _ _ _
   | exact LeO.none _
   | refine LeO.ite ?_ ?_
   | refine LeO.bind ?_ (fun _ => ?_)
theorem tumbrelref09_byDefault.mono : ∀ a0 a1 k, LeO (tumbrelref09_byDefault.f k a0 a1) (tumbrelref09_byDefault.f (k + 1) a0 a1) := by
 intro a0 a1 k
 obtain ⟨ih0, ih1⟩ := tumbrelref09_byDefault.mono_l k
 exact ih0 a0 a1
set_option maxHeartbeats 8000000 in
set_option maxRecDepth 100000 in
theorem tumbrelref09_byDefault.calls (k : Nat) : ∀ (A0 : Option Addr) (c0 : Nat) (l0 : List (S140)) (a1 : Int) (r : List Int) (w : World) (hr0 : Kd.C k140 w A0 l0.length l0) (hc0 : l0.length ≤ c0) (h : tumbrelref09_byDefault.f k l0 a1 = some r),
  Calls Try.prog 94 #[.slice A0 l0.length c0, .int .i64 a1] w fun e w' => ∃ v0_ : Value, e = .returned (v0_) ∧ Kd.R (Kd.int .i64) 3 w' w.heap.size (fun _ => True) v0_ r ∧ Below w.heap.size w w' := by
 induction k using Nat.strongRecOn with
 | _ k ih =>
 intro A0 c0 l0 a1 r w hr0 hc0 h
 cases k with
 | zero => exact absurd h (by simp [tumbrelref09_byDefault.f])
 | succ k =>
 simp only [tumbrelref09_byDefault.f] at h
 have HR0 := Aside0.mk hr0
 have HC0 := Aside0.mk hc0
 clear hr0 hc0
 have HB := Aside0.mk (Below.refl w.heap.size w)
 have H : ((tumbrelref09_Inner.f k l0 a1).bind fun t254 => (tumbrelref09_byDefault.l0 k l0 a1 (([a1] : List Int)) t254 (t254.length : Int) 0)) = some r := h
 clear h
 obtain ⟨y251, hy251⟩ : ∃ y_ : List Int, y_ = (([a1] : List Int)) := ⟨_, rfl⟩
 replace H : ((tumbrelref09_Inner.f k l0 a1).bind fun t254 => (tumbrelref09_byDefault.l0 k l0 a1 y251 t254 (t254.length : Int) 0)) = some r := by first | (rw [hy251]; with_reducible exact H) | (have H2_ := (Option.bind_some _ _).symm.trans H; rw [hy251]; with_reducible exact H2_) | (have H2_ := (Option.bind_some _ _).symm.trans H; with_reducible exact H2_) | with_reducible exact H | (rw [hy251]; exact H) | exact H
 have Ny251 := Aside0.mk hy251
 clear hy251
 replace H := Option.bind_eq_some_iff.mp H
 obtain ⟨t254, A30, H⟩ := H
 replace H : (tumbrelref09_byDefault.l0 k l0 a1 y251 t254 (t254.length : Int) 0) = some r := H
 have A3 := Aside0.mk A30
 clear A30
 have H' := Aside0.mk H
 clear H
 go_enter Try.func94, Try.ntmps94
 go_wp2_with (first | ((with_reducible refine gate_dst (N := 9) rfl ?_); refine Kd.R_lit (Kd.int .i64) _ 3 ?hg (N := 9) ?hd (xs := ([a1] : List Int)) (inner := [.int .i64 a1]) (ok := fun _ => True) (okp := fun _ => True) ?hr ?hp (fun _ hk => hk) trivial (Below.refl _ _) (Nat.le_refl _) (by simp) ?_; (case hd => rfl); (case hg => rfl); (case hr => first | (go_simp; done) | (go_simp; rfl)); (case hp => exact (Reps.one (show Kd.M (Kd.int .i64) _ _ _ a1 [.int .i64 a1] from rfl) (Reps.none _ _))); intro v252 w4 ho5 hb hg_ hnew_; clear hg_ hnew_; (first | rw [← Ny251.out] at ho5 | (simp only [Int.reduceToNat] at ho5; rw [← Ny251.out] at ho5)); have n0_ := Aside0.mk (Kd.R_lower ho5 (below_size kz10_1)); have n1_ := Aside0.mk (below_step kz10_1 hb); clear HB; have HO253 := n0_; have HB := n1_; clear n0_ n1_; clear hb ho5) | ((with_reducible refine gate_callee (f := 89) rfl ?_); refine goesL_ (some 12) rfl rfl Try.func89 (by kernel_rfl) rfl #[.slice A0 l0.length c0, .int .i64 a1] rfl kz10_2 ?_; (with_reducible refine (tumbrelref09_Inner.calls k _ _ l0 a1 t254 _ ?side1 ?side2 A3.out).mono ?_); (case side1 => repeat (first | exact (Kd.C_below HR0.out HB.out) | (with_reducible refine Kd.C_alloc ?_ _) | (with_reducible refine Kd.C_drewN ?_ _) | (with_reducible refine Kd.C_drew ?_))); (case side2 => exact HC0.out); rintro e w6 ⟨v255, rfl, ho0, hb⟩; refine ⟨_, rfl, ?_⟩; have n0_ := Aside0.mk (Kd.R_elder' (by (with_reducible repeat (first | apply Kd.R_alloc | apply Kd.R_drewN | apply Kd.R_drew)); exact HO253.out) (Kd.R_base ho0) hb); have n1_ := Aside0.mk (Kd.R_lower (Kd.R_new' ho0 (Kd.R_lt (by (with_reducible repeat (first | apply Kd.R_alloc | apply Kd.R_drewN | apply Kd.R_drew)); exact HO253.out))) (below_size kz10_1)); have n2_ := Aside0.mk (below_step kz10_1 hb); clear HO253; clear HB; have HO253 := n0_; have HO256 := n1_; have HB := n2_; clear n0_ n1_ n2_; (try clear hb); (try clear hb2); (try clear hk); (try clear hi); (try clear ho0); obtain ⟨Ao7, co7, eo7⟩ := Kd.R_slice HO256.out; subst eo7))
 go_loopg [5, 15] k (fun kq v5 v15 w' => ∃ (x5_1 : List Int) (x15_1 : Int), v15 = .int .i64 x15_1 ∧ Aside0 (tumbrelref09_byDefault.l0 kq l0 a1 x5_1 t254 (t254.length : Int) x15_1 = some r) ∧ Aside0 (kq ≤ k) ∧ Aside0 (Kd.R (Kd.int .i64) 3 w' w.heap.size (fun k_ => some k_ ≠ ((.slice Ao7 t254.length co7) : Value).ownBlock) v5 x5_1) ∧ Aside0 (Kd.R (Kd.int .i64) 3 w' w.heap.size (fun k_ => some k_ ≠ (v5 : Value).ownBlock) (.slice Ao7 t254.length co7) t254) ∧ Aside0 (Below w.heap.size w w'))
 case atStart => exact ⟨(y251), (0), kz10_7, H', ⟨Nat.le_refl _⟩, ⟨by (with_reducible repeat (first | apply Kd.R_alloc | apply Kd.R_drewN | apply Kd.R_drew)); exact Kd.R_mono HO253.out (fun _ hk => hk.2)⟩, ⟨by (with_reducible repeat (first | apply Kd.R_alloc | apply Kd.R_drewN | apply Kd.R_drew)); exact Kd.R_mono HO256.out (fun _ hk => hk.2)⟩, ⟨by repeat (first | (with_reducible first | exact HB.out | apply below_alloc | apply pw_below_drewN | apply below_drew1) | exact HB.out)⟩⟩
 case round =>
  clear H'
  try clear p2
  obtain ⟨x5_1, x15_1, rfl, HA, HK1, HO_5, HO_6, HB⟩ := hrel
  cases gk with
  | zero => exact absurd HA.out (by simp [tumbrelref09_byDefault.l0])
  | succ k1 =>
   have H := HA.out
   clear HA
   simp only [tumbrelref09_byDefault.l0] at H
   by_cases c8 : x15_1 < (t254.length : Int)
   ·rw [if_pos c8] at H
    have c8b0 : decide (x15_1 < (t254.length : Int)) = true := decide_eq_true c8
    clear c8
    by_cases c9 : 0 ≤ a1
    ·rw [if_pos c9] at H
     have c9b0 : decide (0 ≤ a1) = true := decide_eq_true c9
     clear c9
     by_cases c10 : a1 < (l0.length : Int)
     ·rw [if_pos c10] at H
      have c10b0 : decide (a1 < (l0.length : Int)) = true := decide_eq_true c10
      clear c10
      obtain ⟨bq11, hbq11⟩ : ∃ b_ : Bool, b_ = ((rd_T140 l0 a1).f4) := ⟨_, rfl⟩
      replace H : (if bq11 = true then (if 0 ≤ x15_1 then (if x15_1 < (t254.length : Int) then ((tumbrelref09_byDefault.f k1 l0 (rd t254 x15_1)).bind fun t259 => (if x5_1.length + t259.length < 17592186044416 then (tumbrelref09_byDefault.l0 k1 l0 a1 (x5_1 ++ t259) t254 (t254.length : Int) (wrap64 (x15_1 + 1))) else (none))) else (none)) else (none)) else (if x15_1 = 0 then (if 0 ≤ x15_1 then (if x15_1 < (t254.length : Int) then ((tumbrelref09_byDefault.f k1 l0 (rd t254 x15_1)).bind fun t266 => (if x5_1.length + t266.length < 17592186044416 then (tumbrelref09_byDefault.l0 k1 l0 a1 (x5_1 ++ t266) t254 (t254.length : Int) (wrap64 (x15_1 + 1))) else (none))) else (none)) else (none)) else (tumbrelref09_byDefault.l0 k1 l0 a1 x5_1 t254 (t254.length : Int) (wrap64 (x15_1 + 1))))) = some r := by rw [← hbq11] at H; exact H
      have Nbq11 := Aside0.mk hbq11
      clear hbq11
      by_cases c12 : bq11 = true
      ·subst c12
       have H1 : (if 0 ≤ x15_1 then (if x15_1 < (t254.length : Int) then ((tumbrelref09_byDefault.f k1 l0 (rd t254 x15_1)).bind fun t259 => (if x5_1.length + t259.length < 17592186044416 then (tumbrelref09_byDefault.l0 k1 l0 a1 (x5_1 ++ t259) t254 (t254.length : Int) (wrap64 (x15_1 + 1))) else (none))) else (none)) else (none)) = some r := by rw [if_pos rfl] at H; exact H
       clear H
       have H := H1
       clear H1
       by_cases c13 : 0 ≤ x15_1
       ·rw [if_pos c13] at H
        have c13b0 : decide (0 ≤ x15_1) = true := decide_eq_true c13
        clear c13
        by_cases c14 : x15_1 < (t254.length : Int)
        ·rw [if_pos c14] at H
         have c14b0 : decide (x15_1 < (t254.length : Int)) = true := decide_eq_true c14
         clear c14
         replace H := Option.bind_eq_some_iff.mp H
         obtain ⟨t259, A150, H⟩ := H
         replace H : (if x5_1.length + t259.length < 17592186044416 then (tumbrelref09_byDefault.l0 k1 l0 a1 (x5_1 ++ t259) t254 (t254.length : Int) (wrap64 (x15_1 + 1))) else (none)) = some r := H
         have A15 := Aside0.mk A150
         clear A150
         by_cases c16 : x5_1.length + t259.length < 17592186044416
         ·rw [if_pos c16] at H
          have LMc16 := Aside0.mk c16
          clear c16
          obtain ⟨y262, hy262⟩ : ∃ y_ : List Int, y_ = (x5_1 ++ t259) := ⟨_, rfl⟩
          replace H : (tumbrelref09_byDefault.l0 k1 l0 a1 y262 t254 (t254.length : Int) (wrap64 (x15_1 + 1))) = some r := by first | (rw [hy262]; with_reducible exact H) | (have H2_ := (Option.bind_some _ _).symm.trans H; rw [hy262]; with_reducible exact H2_) | (have H2_ := (Option.bind_some _ _).symm.trans H; with_reducible exact H2_) | with_reducible exact H | (rw [hy262]; exact H) | exact H
          have Ny262 := Aside0.mk hy262
          clear hy262
          have H' := Aside0.mk H
          clear H
          have p257 : 0 ≤ (a1 : Int) := of_decide_eq_true kz10_3
          have q257 : a1 < (l0.length : Int) := of_decide_eq_true kz10_3
          obtain ⟨ad257, e257, hx257_0, hx257_1, hx257_2, hx257_3, hx257_4, hx257_5, hx257_6⟩ := at_T140 HR0.out a1 p257 q257
          (try rw [← Nbq11.out] at hx257_4)
          (try rw [← Nbq11.out] at hx257_5)
          (try rw [← Nbq11.out] at hx257_6)
          cases e257
          replace hx257_0 := (HB.out.cell (World.block_lt_of_cell? w _ hx257_0)).trans hx257_0
          replace hx257_1 := (HB.out.cell (World.block_lt_of_cell? w _ hx257_1)).trans hx257_1
          replace hx257_2 := (HB.out.cell (World.block_lt_of_cell? w _ hx257_2)).trans hx257_2
          replace hx257_3 := (HB.out.cell (World.block_lt_of_cell? w _ hx257_3)).trans hx257_3
          replace hx257_4 := (HB.out.cell (World.block_lt_of_cell? w _ hx257_4)).trans hx257_4
          replace hx257_5 := (HB.out.cell (World.block_lt_of_cell? w _ hx257_5)).trans hx257_5
          replace hx257_6 := (HB.out.cell (World.block_lt_of_cell? w _ hx257_6)).trans hx257_6
          replace p257 := eq_true p257
          replace q257 := eq_true q257
          have p258 : 0 ≤ (x15_1 : Int) := of_decide_eq_true kz10_3
          have q258 : x15_1 < (t254.length : Int) := of_decide_eq_true kz10_3
          obtain ⟨ad258, e258, hx258_0⟩ := Kd.at_int (Kd.R_reads' HO_6.out).2.2 x15_1 p258 q258
          cases e258
          replace p258 := eq_true p258
          replace q258 := eq_true q258
          go_wp2_with (first | ((with_reducible refine gate_callee (f := 94) rfl ?_); refine goesL_ (some 33) rfl rfl Try.func94 (by kernel_rfl) rfl #[.slice (some ad257) l0.length c0, .int .i64 (rd t254 x15_1)] rfl kz10_2 ?_; (with_reducible refine (ih k1 (by have := HK1.out; omega) _ _ l0 (rd t254 x15_1) t259 _ ?side1 ?side2 A15.out).mono ?_); (case side1 => repeat (first | exact (Kd.C_below HR0.out HB.out) | (with_reducible refine Kd.C_alloc ?_ _) | (with_reducible refine Kd.C_drewN ?_ _) | (with_reducible refine Kd.C_drew ?_))); (case side2 => exact HC0.out); rintro e w17 ⟨v260, rfl, ho0, hb⟩; refine ⟨_, rfl, ?_⟩; have n0_ := Aside0.mk (Kd.R_elder' kz10_4 (Kd.R_base ho0) hb); have n1_ := Aside0.mk (Kd.R_elder' kz10_6 (Kd.R_base ho0) hb); have n2_ := Aside0.mk (Kd.R_lower (Kd.R_new' (Kd.R_new' ho0 (Kd.R_lt kz10_4)) (Kd.R_lt kz10_6)) (below_size kz10_1)); have n3_ := Aside0.mk (below_step kz10_1 hb); clear HO_5; clear HO_6; clear HB; have HO_5 := n0_; have HO_6 := n1_; have HO261 := n2_; have HB := n3_; clear n0_ n1_ n2_ n3_; (try clear hb); (try clear hb2); (try clear hk); (try clear hi); (try clear ho0); obtain ⟨Ao19, co19, eo19⟩ := Kd.R_slice HO261.out; subst eo19) | ((with_reducible refine gate_builtin (b := .append) (xs := #[.tmp 27, .tmp 33]) rfl ?_); at_builtin; refine Kd.R_append_rows (Kd.int .i64) (w0 := w) w.heap.size rfl (.tmp 27) (.tmp 33) 65 3 (.int .i64 0) 8 rfl Try.underlying65 info3 rfl (by decide) (by omega) u5 x5_1 t259 _ _ _ (fun k_ => some k_ ≠ (.slice (some ad258) t254.length co7 : Value).ownBlock ∧ some k_ ≠ (.slice Ao19 t259.length co19 : Value).ownBlock) (fun _ => False) rfl rfl ?aO ?aR (fun _ _ h => h) (fun _ h => h.elim) ?aF ?aB ?aS ?aL ?_; (case aR => repeat (first | exact (Kd.R_reads' HO261.out).2.2 | (with_reducible refine Kd.C_alloc ?_ _) | (with_reducible refine Kd.C_drewN ?_ _) | (with_reducible refine Kd.C_drew ?_))); (case aB => exact kz10_1); (case aF => exact (fun k_ hk => ⟨Kd.fresh' (Kd.R_lt kz10_6) k_ hk, Kd.fresh' (Kd.R_lt (by (with_reducible repeat (first | apply Kd.R_alloc | apply Kd.R_drewN | apply Kd.R_drew)); exact HO261.out)) k_ hk⟩)); (case aO => exact kz10_4); (case aS => exact (below_size kz10_1)); (case aL => have := LMc16.out; omega); intro v263 w18 ho hb hg hat; rw [← Ny262.out] at ho; have n0_ := Aside0.mk (Kd.R_after (ok := (fun k_ => some k_ ≠ (.slice Ao19 t259.length co19 : Value).ownBlock)) (by (with_reducible repeat (first | apply Kd.R_alloc | apply Kd.R_drewN | apply Kd.R_drew)); exact Kd.R_mono HO_6.out (fun _ hk => ⟨hk.2, hk.1⟩)) hg hat); have n1_ := Aside0.mk (Kd.R_after (ok := (fun k_ => some k_ ≠ (.slice (some ad258) t254.length co7 : Value).ownBlock)) (by (with_reducible repeat (first | apply Kd.R_alloc | apply Kd.R_drewN | apply Kd.R_drew)); exact Kd.R_mono HO261.out (fun _ hk => ⟨hk.2, hk.1.2⟩)) hg hat); have n2_ := Aside0.mk (hb); have n3_ := Aside0.mk (ho); clear HO_6; clear HO261; clear HB; clear HO_5; have HO_6 := n0_; have HO261 := n1_; have HB := n2_; have HO264 := n3_; clear n0_ n1_ n2_ n3_; clear ho hb hg hat))
          go_roundg k1
          case measure => have := HK1.out; omega
          case rel => exact ⟨(y262), (wrap64 (x15_1 + 1)), kz10_7, H', ⟨by have := HK1.out; omega⟩, ⟨by (with_reducible repeat (first | apply Kd.R_alloc | apply Kd.R_drewN | apply Kd.R_drew)); exact Kd.R_mono HO264.out (fun _ hk => hk.1)⟩, ⟨by (with_reducible repeat (first | apply Kd.R_alloc | apply Kd.R_drewN | apply Kd.R_drew)); exact Kd.R_mono HO_6.out (fun _ hk => hk.2)⟩, ⟨by repeat (first | (with_reducible first | exact HB.out | apply below_alloc | apply pw_below_drewN | apply below_drew1) | exact HB.out)⟩⟩
         ·rw [if_neg c16] at H
          exact absurd H (by simp)
        ·rw [if_neg c14] at H
         exact absurd H (by simp)
       ·rw [if_neg c13] at H
        exact absurd H (by simp)
      ·replace c12 := Bool.eq_false_iff.mpr c12
       subst c12
       have H1 : (if x15_1 = 0 then (if 0 ≤ x15_1 then (if x15_1 < (t254.length : Int) then ((tumbrelref09_byDefault.f k1 l0 (rd t254 x15_1)).bind fun t266 => (if x5_1.length + t266.length < 17592186044416 then (tumbrelref09_byDefault.l0 k1 l0 a1 (x5_1 ++ t266) t254 (t254.length : Int) (wrap64 (x15_1 + 1))) else (none))) else (none)) else (none)) else (tumbrelref09_byDefault.l0 k1 l0 a1 x5_1 t254 (t254.length : Int) (wrap64 (x15_1 + 1)))) = some r := by rw [if_neg (show ¬ (false = true) by decide)] at H; exact H
       clear H
       have H := H1
       clear H1
       by_cases c20 : x15_1 = 0
       ·rw [if_pos c20] at H
        have c20b0 : (x15_1 == 0) = true := beq_iff_eq.mpr c20
        have c20b1 : (x15_1 != 0) = false := bne_eq_false_iff_eq.mpr c20
        clear c20
        by_cases c21 : 0 ≤ x15_1
        ·rw [if_pos c21] at H
         have c21b0 : decide (0 ≤ x15_1) = true := decide_eq_true c21
         clear c21
         by_cases c22 : x15_1 < (t254.length : Int)
         ·rw [if_pos c22] at H
          have c22b0 : decide (x15_1 < (t254.length : Int)) = true := decide_eq_true c22
          clear c22
          replace H := Option.bind_eq_some_iff.mp H
          obtain ⟨t266, A230, H⟩ := H
          replace H : (if x5_1.length + t266.length < 17592186044416 then (tumbrelref09_byDefault.l0 k1 l0 a1 (x5_1 ++ t266) t254 (t254.length : Int) (wrap64 (x15_1 + 1))) else (none)) = some r := H
          have A23 := Aside0.mk A230
          clear A230
          by_cases c24 : x5_1.length + t266.length < 17592186044416
          ·rw [if_pos c24] at H
           have LMc24 := Aside0.mk c24
           clear c24
           obtain ⟨y269, hy269⟩ : ∃ y_ : List Int, y_ = (x5_1 ++ t266) := ⟨_, rfl⟩
           replace H : (tumbrelref09_byDefault.l0 k1 l0 a1 y269 t254 (t254.length : Int) (wrap64 (x15_1 + 1))) = some r := by first | (rw [hy269]; with_reducible exact H) | (have H2_ := (Option.bind_some _ _).symm.trans H; rw [hy269]; with_reducible exact H2_) | (have H2_ := (Option.bind_some _ _).symm.trans H; with_reducible exact H2_) | with_reducible exact H | (rw [hy269]; exact H) | exact H
           have Ny269 := Aside0.mk hy269
           clear hy269
           have H' := Aside0.mk H
           clear H
           have p257 : 0 ≤ (a1 : Int) := of_decide_eq_true kz10_3
           have q257 : a1 < (l0.length : Int) := of_decide_eq_true kz10_3
           obtain ⟨ad257, e257, hx257_0, hx257_1, hx257_2, hx257_3, hx257_4, hx257_5, hx257_6⟩ := at_T140 HR0.out a1 p257 q257
           (try rw [← Nbq11.out] at hx257_4)
           (try rw [← Nbq11.out] at hx257_5)
           (try rw [← Nbq11.out] at hx257_6)
           cases e257
           replace hx257_0 := (HB.out.cell (World.block_lt_of_cell? w _ hx257_0)).trans hx257_0
           replace hx257_1 := (HB.out.cell (World.block_lt_of_cell? w _ hx257_1)).trans hx257_1
           replace hx257_2 := (HB.out.cell (World.block_lt_of_cell? w _ hx257_2)).trans hx257_2
           replace hx257_3 := (HB.out.cell (World.block_lt_of_cell? w _ hx257_3)).trans hx257_3
           replace hx257_4 := (HB.out.cell (World.block_lt_of_cell? w _ hx257_4)).trans hx257_4
           replace hx257_5 := (HB.out.cell (World.block_lt_of_cell? w _ hx257_5)).trans hx257_5
           replace hx257_6 := (HB.out.cell (World.block_lt_of_cell? w _ hx257_6)).trans hx257_6
           replace p257 := eq_true p257
           replace q257 := eq_true q257
           have p265 : 0 ≤ (x15_1 : Int) := of_decide_eq_true kz10_3
           have q265 : x15_1 < (t254.length : Int) := of_decide_eq_true kz10_3
           obtain ⟨ad265, e265, hx265_0⟩ := Kd.at_int (Kd.R_reads' HO_6.out).2.2 x15_1 p265 q265
           cases e265
           replace p265 := eq_true p265
           replace q265 := eq_true q265
           go_wp2_with (first | ((with_reducible refine gate_callee (f := 94) rfl ?_); refine goesL_ (some 33) rfl rfl Try.func94 (by kernel_rfl) rfl #[.slice (some ad257) l0.length c0, .int .i64 (rd t254 x15_1)] rfl kz10_2 ?_; (with_reducible refine (ih k1 (by have := HK1.out; omega) _ _ l0 (rd t254 x15_1) t266 _ ?side1 ?side2 A23.out).mono ?_); (case side1 => repeat (first | exact (Kd.C_below HR0.out HB.out) | (with_reducible refine Kd.C_alloc ?_ _) | (with_reducible refine Kd.C_drewN ?_ _) | (with_reducible refine Kd.C_drew ?_))); (case side2 => exact HC0.out); rintro e w25 ⟨v267, rfl, ho0, hb⟩; refine ⟨_, rfl, ?_⟩; have n0_ := Aside0.mk (Kd.R_elder' kz10_4 (Kd.R_base ho0) hb); have n1_ := Aside0.mk (Kd.R_elder' kz10_6 (Kd.R_base ho0) hb); have n2_ := Aside0.mk (Kd.R_lower (Kd.R_new' (Kd.R_new' ho0 (Kd.R_lt kz10_4)) (Kd.R_lt kz10_6)) (below_size kz10_1)); have n3_ := Aside0.mk (below_step kz10_1 hb); clear HO_5; clear HO_6; clear HB; have HO_5 := n0_; have HO_6 := n1_; have HO268 := n2_; have HB := n3_; clear n0_ n1_ n2_ n3_; (try clear hb); (try clear hb2); (try clear hk); (try clear hi); (try clear ho0); obtain ⟨Ao27, co27, eo27⟩ := Kd.R_slice HO268.out; subst eo27) | ((with_reducible refine gate_builtin (b := .append) (xs := #[.tmp 27, .tmp 33]) rfl ?_); at_builtin; refine Kd.R_append_rows (Kd.int .i64) (w0 := w) w.heap.size rfl (.tmp 27) (.tmp 33) 65 3 (.int .i64 0) 8 rfl Try.underlying65 info3 rfl (by decide) (by omega) u5 x5_1 t266 _ _ _ (fun k_ => some k_ ≠ (.slice (some ad265) t254.length co7 : Value).ownBlock ∧ some k_ ≠ (.slice Ao27 t266.length co27 : Value).ownBlock) (fun _ => False) rfl rfl ?aO ?aR (fun _ _ h => h) (fun _ h => h.elim) ?aF ?aB ?aS ?aL ?_; (case aR => repeat (first | exact (Kd.R_reads' HO268.out).2.2 | (with_reducible refine Kd.C_alloc ?_ _) | (with_reducible refine Kd.C_drewN ?_ _) | (with_reducible refine Kd.C_drew ?_))); (case aB => exact kz10_1); (case aF => exact (fun k_ hk => ⟨Kd.fresh' (Kd.R_lt kz10_6) k_ hk, Kd.fresh' (Kd.R_lt (by (with_reducible repeat (first | apply Kd.R_alloc | apply Kd.R_drewN | apply Kd.R_drew)); exact HO268.out)) k_ hk⟩)); (case aO => exact kz10_4); (case aS => exact (below_size kz10_1)); (case aL => have := LMc24.out; omega); intro v270 w26 ho hb hg hat; rw [← Ny269.out] at ho; have n0_ := Aside0.mk (Kd.R_after (ok := (fun k_ => some k_ ≠ (.slice Ao27 t266.length co27 : Value).ownBlock)) (by (with_reducible repeat (first | apply Kd.R_alloc | apply Kd.R_drewN | apply Kd.R_drew)); exact Kd.R_mono HO_6.out (fun _ hk => ⟨hk.2, hk.1⟩)) hg hat); have n1_ := Aside0.mk (Kd.R_after (ok := (fun k_ => some k_ ≠ (.slice (some ad265) t254.length co7 : Value).ownBlock)) (by (with_reducible repeat (first | apply Kd.R_alloc | apply Kd.R_drewN | apply Kd.R_drew)); exact Kd.R_mono HO268.out (fun _ hk => ⟨hk.2, hk.1.2⟩)) hg hat); have n2_ := Aside0.mk (hb); have n3_ := Aside0.mk (ho); clear HO_6; clear HO268; clear HB; clear HO_5; have HO_6 := n0_; have HO268 := n1_; have HB := n2_; have HO271 := n3_; clear n0_ n1_ n2_ n3_; clear ho hb hg hat))
           go_roundg k1
           case measure => have := HK1.out; omega
           case rel => exact ⟨(y269), (wrap64 (x15_1 + 1)), kz10_7, H', ⟨by have := HK1.out; omega⟩, ⟨by (with_reducible repeat (first | apply Kd.R_alloc | apply Kd.R_drewN | apply Kd.R_drew)); exact Kd.R_mono HO271.out (fun _ hk => hk.1)⟩, ⟨by (with_reducible repeat (first | apply Kd.R_alloc | apply Kd.R_drewN | apply Kd.R_drew)); exact Kd.R_mono HO_6.out (fun _ hk => hk.2)⟩, ⟨by repeat (first | (with_reducible first | exact HB.out | apply below_alloc | apply pw_below_drewN | apply below_drew1) | exact HB.out)⟩⟩
          ·rw [if_neg c24] at H
           exact absurd H (by simp)
         ·rw [if_neg c22] at H
          exact absurd H (by simp)
        ·rw [if_neg c21] at H
         exact absurd H (by simp)
       ·rw [if_neg c20] at H
        have c20b0 : (x15_1 == 0) = false := beq_eq_false_iff_ne.mpr c20
        have c20b1 : (x15_1 != 0) = true := bne_iff_ne.mpr c20
        have H' := Aside0.mk H
        clear H
        have p257 : 0 ≤ (a1 : Int) := of_decide_eq_true kz10_3
        have q257 : a1 < (l0.length : Int) := of_decide_eq_true kz10_3
        obtain ⟨ad257, e257, hx257_0, hx257_1, hx257_2, hx257_3, hx257_4, hx257_5, hx257_6⟩ := at_T140 HR0.out a1 p257 q257
        (try rw [← Nbq11.out] at hx257_4)
        (try rw [← Nbq11.out] at hx257_5)
        (try rw [← Nbq11.out] at hx257_6)
        cases e257
        replace hx257_0 := (HB.out.cell (World.block_lt_of_cell? w _ hx257_0)).trans hx257_0
        replace hx257_1 := (HB.out.cell (World.block_lt_of_cell? w _ hx257_1)).trans hx257_1
        replace hx257_2 := (HB.out.cell (World.block_lt_of_cell? w _ hx257_2)).trans hx257_2
        replace hx257_3 := (HB.out.cell (World.block_lt_of_cell? w _ hx257_3)).trans hx257_3
        replace hx257_4 := (HB.out.cell (World.block_lt_of_cell? w _ hx257_4)).trans hx257_4
        replace hx257_5 := (HB.out.cell (World.block_lt_of_cell? w _ hx257_5)).trans hx257_5
        replace hx257_6 := (HB.out.cell (World.block_lt_of_cell? w _ hx257_6)).trans hx257_6
        replace p257 := eq_true p257
        replace q257 := eq_true q257
        go_wp2
        go_roundg k1
        case measure => have := HK1.out; omega
        case rel => exact ⟨(x5_1), (wrap64 (x15_1 + 1)), kz10_7, H', ⟨by have := HK1.out; omega⟩, ⟨by (with_reducible repeat (first | apply Kd.R_alloc | apply Kd.R_drewN | apply Kd.R_drew)); exact HO_5.out⟩, ⟨by (with_reducible repeat (first | apply Kd.R_alloc | apply Kd.R_drewN | apply Kd.R_drew)); exact HO_6.out⟩, ⟨by repeat (first | (with_reducible first | exact HB.out | apply below_alloc | apply pw_below_drewN | apply below_drew1) | exact HB.out)⟩⟩
     ·rw [if_neg c10] at H
      exact absurd H (by simp)
    ·rw [if_neg c9] at H
     exact absurd H (by simp)
   ·rw [if_neg c8] at H
    have c8b0 : decide (x15_1 < (t254.length : Int)) = false := decide_eq_false c8
    clear c8
    obtain rfl := Option.some.inj H
    go_wp2
    go_ret
    exact ⟨_, by first | rfl | (simp [errW_none, errW_some] <;> rfl) | (simp [*, errW_none, errW_some] <;> rfl), by (with_reducible repeat (first | apply Kd.R_alloc | apply Kd.R_drewN | apply Kd.R_drew)); exact Kd.R_mono HO_5.out (fun _ hk => trivial), by repeat (first | (with_reducible first | exact HB.out | apply below_alloc | apply pw_below_drewN | apply below_drew1) | exact HB.out)⟩

/-! ### tumbrelref09_Start: function 50 -/
def tumbrelref09_Start.f (k : Nat) (l0 : List (S140)) : Option (List Int) := (tumbrelref09_Formed.f k l0).bind fun t272 => (if t272 = true then (if (l0.length : Int) = 0 then (some ([] : List Int)) else ((tumbrelref09_byDefault.f k l0 0).bind fun t273 => (some t273))) else (some ([] : List Int)))
theorem tumbrelref09_Start.mono : ∀ a0 k, LeO (tumbrelref09_Start.f k a0) (tumbrelref09_Start.f (k + 1) a0) := by
 intro a0 k
 unfold tumbrelref09_Start.f
 repeat' first
   | (with_reducible exact tumbrelref09_Formed.mono _ _)
   | (with_reducible exact tumbrelref09_byDefault.mono _ _ _)
   | (with_reducible exact LeO.refl _)
   | (with_reducible exact LeO.none _)
   | (with_reducible refine LeO.ite ?_ ?_)
   | (with_reducible refine LeO.bind ?_ (fun _ => ?_))
   | exact tumbrelref09_Formed.mono _ _
   | exact tumbrelref09_byDefault.mono _ _ _
   | exact LeO.none _
   | refine LeO.ite ?_ ?_
   | refine LeO.bind ?_ (fun _ => ?_)
set_option maxHeartbeats 8000000 in
set_option maxRecDepth 100000 in
theorem tumbrelref09_Start.calls (k : Nat) (A0 : Option Addr) (c0 : Nat) (l0 : List (S140)) (r : List Int) (w : World) (hr0 : Kd.C k140 w A0 l0.length l0) (hc0 : l0.length ≤ c0) (h : tumbrelref09_Start.f k l0 = some r) :
  Calls Try.prog 50 #[.slice A0 l0.length c0] w fun e w' => ∃ v0_ : Value, e = .returned (v0_) ∧ Kd.R (Kd.int .i64) 3 w' w.heap.size (fun _ => True) v0_ r ∧ Below w.heap.size w w' := by
 have HR0 := Aside0.mk hr0
 have HC0 := Aside0.mk hc0
 clear hr0 hc0
 have HB := Aside0.mk (Below.refl w.heap.size w)
 have H : ((tumbrelref09_Formed.f k l0).bind fun t272 => (if t272 = true then (if (l0.length : Int) = 0 then (some ([] : List Int)) else ((tumbrelref09_byDefault.f k l0 0).bind fun t273 => (some t273))) else (some ([] : List Int)))) = some r := h
 clear h
 replace H := Option.bind_eq_some_iff.mp H
 obtain ⟨t272, A20, H⟩ := H
 replace H : (if t272 = true then (if (l0.length : Int) = 0 then (some ([] : List Int)) else ((tumbrelref09_byDefault.f k l0 0).bind fun t273 => (some t273))) else (some ([] : List Int))) = some r := H
 have A2 := Aside0.mk A20
 clear A20
 by_cases c3 : t272 = true
 ·subst c3
  have H1 : (if (l0.length : Int) = 0 then (some ([] : List Int)) else ((tumbrelref09_byDefault.f k l0 0).bind fun t273 => (some t273))) = some r := by rw [if_pos rfl] at H; exact H
  clear H
  have H := H1
  clear H1
  by_cases c4 : (l0.length : Int) = 0
  ·rw [if_pos c4] at H
   have c4b0 : ((l0.length : Int) == 0) = true := beq_iff_eq.mpr c4
   have c4b1 : ((l0.length : Int) != 0) = false := bne_eq_false_iff_eq.mpr c4
   clear c4
   obtain rfl := Option.some.inj H
   go_enter Try.func50, Try.ntmps50
   go_wp2_with (first | ((with_reducible refine gate_callee (f := 86) rfl ?_); refine goesL_ (some 4) rfl rfl Try.func86 (by kernel_rfl) rfl #[.slice A0 l0.length c0] rfl kz10_2 ?_; (with_reducible refine (tumbrelref09_Formed.calls k _ _ l0 true _ ?side1 ?side2 A2.out).mono ?_); (case side1 => repeat (first | exact HR0.out | (with_reducible refine Kd.C_alloc ?_ _) | (with_reducible refine Kd.C_drewN ?_ _) | (with_reducible refine Kd.C_drew ?_))); (case side2 => exact HC0.out); rintro e w' ⟨rfl, ⟨nd, rfl⟩⟩; refine ⟨_, rfl, ?_⟩))
   go_ret
   exact ⟨_, by first | rfl | (simp [errW_none, errW_some] <;> rfl) | (simp [*, errW_none, errW_some] <;> rfl), by first | exact Kd.R_nil _ _ _ _ _ | exact Kd.N_nil _ _ _ _ _ | exact Kd.V_nil _ _ _ _ _ | exact Kd.Q_nil _ _ _ _ _ | exact Kd.S_nil _ _ _ _ _, by repeat (first | (with_reducible first | exact HB.out | apply below_alloc | apply pw_below_drewN | apply below_drew1) | exact HB.out)⟩
  ·rw [if_neg c4] at H
   have c4b0 : ((l0.length : Int) == 0) = false := beq_eq_false_iff_ne.mpr c4
   have c4b1 : ((l0.length : Int) != 0) = true := bne_iff_ne.mpr c4
   have c4b2 : ¬ (l0 = []) := fun h_ => c4 (by rw [h_]; rfl)
   replace H := Option.bind_eq_some_iff.mp H
   obtain ⟨t273, A50, H⟩ := H
   replace H : (some t273) = some r := H
   have A5 := Aside0.mk A50
   clear A50
   obtain rfl := Option.some.inj H
   go_enter Try.func50, Try.ntmps50
   go_wp2_with (first | ((with_reducible refine gate_callee (f := 86) rfl ?_); refine goesL_ (some 4) rfl rfl Try.func86 (by kernel_rfl) rfl #[.slice A0 l0.length c0] rfl kz10_2 ?_; (with_reducible refine (tumbrelref09_Formed.calls k _ _ l0 true _ ?side1 ?side2 A2.out).mono ?_); (case side1 => repeat (first | exact HR0.out | (with_reducible refine Kd.C_alloc ?_ _) | (with_reducible refine Kd.C_drewN ?_ _) | (with_reducible refine Kd.C_drew ?_))); (case side2 => exact HC0.out); rintro e w' ⟨rfl, ⟨nd, rfl⟩⟩; refine ⟨_, rfl, ?_⟩) | ((with_reducible refine gate_callee (f := 94) rfl ?_); refine goesL_ (some 12) rfl rfl Try.func94 (by kernel_rfl) rfl #[.slice A0 l0.length c0, .int .i64 0] rfl kz10_2 ?_; (with_reducible refine (tumbrelref09_byDefault.calls k _ _ l0 0 t273 _ ?side1 ?side2 A5.out).mono ?_); (case side1 => repeat (first | exact HR0.out | (with_reducible refine Kd.C_alloc ?_ _) | (with_reducible refine Kd.C_drewN ?_ _) | (with_reducible refine Kd.C_drew ?_))); (case side2 => exact HC0.out); rintro e w6 ⟨v274, rfl, ho0, hb⟩; refine ⟨_, rfl, ?_⟩; have n0_ := Aside0.mk (Kd.R_lower ho0 (below_size kz10_1)); have n1_ := Aside0.mk (below_step kz10_1 hb); clear HB; have HO275 := n0_; have HB := n1_; clear n0_ n1_; (try clear hb); (try clear hb2); (try clear hk); (try clear hi); (try clear ho0)))
   go_ret
   exact ⟨_, by first | rfl | (simp [errW_none, errW_some] <;> rfl) | (simp [*, errW_none, errW_some] <;> rfl), by (with_reducible repeat (first | apply Kd.R_alloc | apply Kd.R_drewN | apply Kd.R_drew)); exact HO275.out, by repeat (first | (with_reducible first | exact HB.out | apply below_alloc | apply pw_below_drewN | apply below_drew1) | exact HB.out)⟩
 ·replace c3 := Bool.eq_false_iff.mpr c3
  subst c3
  have H1 : (some ([] : List Int)) = some r := by rw [if_neg (show ¬ (false = true) by decide)] at H; exact H
  clear H
  have H := H1
  clear H1
  obtain rfl := Option.some.inj H
  go_enter Try.func50, Try.ntmps50
  go_wp2_with (first | ((with_reducible refine gate_callee (f := 86) rfl ?_); refine goesL_ (some 4) rfl rfl Try.func86 (by kernel_rfl) rfl #[.slice A0 l0.length c0] rfl kz10_2 ?_; (with_reducible refine (tumbrelref09_Formed.calls k _ _ l0 false _ ?side1 ?side2 A2.out).mono ?_); (case side1 => repeat (first | exact HR0.out | (with_reducible refine Kd.C_alloc ?_ _) | (with_reducible refine Kd.C_drewN ?_ _) | (with_reducible refine Kd.C_drew ?_))); (case side2 => exact HC0.out); rintro e w' ⟨rfl, ⟨nd, rfl⟩⟩; refine ⟨_, rfl, ?_⟩))
  go_ret
  exact ⟨_, by first | rfl | (simp [errW_none, errW_some] <;> rfl) | (simp [*, errW_none, errW_some] <;> rfl), by first | exact Kd.R_nil _ _ _ _ _ | exact Kd.N_nil _ _ _ _ _ | exact Kd.V_nil _ _ _ _ _ | exact Kd.Q_nil _ _ _ _ _ | exact Kd.S_nil _ _ _ _ _, by repeat (first | (with_reducible first | exact HB.out | apply below_alloc | apply pw_below_drewN | apply below_drew1) | exact HB.out)⟩

end Go.Proofs.Ytjghlomkimoeoaa.PConfigAsks
