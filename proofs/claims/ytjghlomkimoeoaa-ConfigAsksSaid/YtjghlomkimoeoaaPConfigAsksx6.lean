-- Written by fprint.py (wip), by way of the printer's functions; where they are turned, by texts of mine.
import Derived.Test.YtjghlomkimoeoaaPConfigAsksx0
import Derived.Test.YtjghlomkimoeoaaPConfigAsksx5
namespace Go.Proofs.Ytjghlomkimoeoaa.PConfigAsks
open Go.RowKit Go.Proofs.YtjghlomkimoeoaaW.PrintWords Go.Proofs.YtjghlomkimoeoaaW.PrintLast Go.Proofs.YtjghlomkimoeoaaW.PrintMore
attribute [local go_sem] max2_int min2_int max_two min_two max_three min_three max_four min_four   -- for this text's walks alone
set_option linter.unusedVariables false
set_option linter.unusedSimpArgs false
theorem kz6_1 {p_ : Prop} (h_ : p_ := by first | (with_reducible assumption) | assumption) : p_ := h_
theorem kz6_2 {p_ : Prop} (h_ : p_ := by first | rfl | (simp; done) | (simp [*]; done)) : p_ := h_

/-! ### tumbrelref09_Formed: function 86 -/
mutual
def tumbrelref09_Formed.l0 : Nat → List (S140) → Int → Int → Option (Bool)
 | 0, _, _, _ => none
 | k + 1, x0, x13, x14 => if x14 < x13 then (if 0 ≤ x14 then (if x14 < (x0.length : Int) then (tumbrelref09_Formed.l1 k x0 x14 (((rd_T140 x0 x14).f1) == (-1)) (wrap64 (x14 - 1)) x13 x14) else (none)) else (none)) else (some true)
def tumbrelref09_Formed.j2 : Nat → List (S140) → Int → Bool → Int → Int → Option (Bool)
 | 0, _, _, _, _, _ => none
 | k + 1, x0, x3, x4, x13, x14 => if x4 = true then (if 0 ≤ x3 then (if x3 < (x0.length : Int) then (tumbrelref09_Formed.l2 k x0 x3 0 ((rd_T140 x0 x3).f1) x13 x14) else (none)) else (none)) else (some false)
def tumbrelref09_Formed.l2 : Nat → List (S140) → Int → Int → Int → Int → Int → Option (Bool)
 | 0, _, _, _, _, _, _ => none
 | k + 1, x0, x3, x6, x7, x13, x14 => if x7 ≥ 0 then (if 0 ≤ x7 then (if x7 < (x0.length : Int) then (tumbrelref09_Formed.l2 k x0 x3 (wrap64 (x6 + 1)) ((rd_T140 x0 x7).f1) x13 x14) else (none)) else (none)) else (tumbrelref09_Formed.l3 k x0 x3 x6 (wrap64 (x3 + 1)) x13 x14)
def tumbrelref09_Formed.l3 : Nat → List (S140) → Int → Int → Int → Int → Int → Option (Bool)
 | 0, _, _, _, _, _, _ => none
 | k + 1, x0, x3, x6, x8, x13, x14 => if x8 < (x0.length : Int) then ((tumbrelref09_lies.f k x0 x8 x3).bind fun t170 => (if t170 = true then (tumbrelref09_Formed.l3 k x0 x3 x6 (wrap64 (x8 + 1)) x13 x14) else (if 0 ≤ x3 then (if x3 < (x0.length : Int) then (if ((rd_T140 x0 x3).f2) = x6 then (if ((rd_T140 x0 x3).f3) = x8 then (if (((rd_T140 x0 x3).f6) != (x8 == (wrap64 (x3 + 1)))) = true then (some false) else (tumbrelref09_Formed.l0 k x0 x13 (wrap64 (x14 + 1)))) else (some false)) else (some false)) else (none)) else (none)))) else (if 0 ≤ x3 then (if x3 < (x0.length : Int) then (if ((rd_T140 x0 x3).f2) = x6 then (if ((rd_T140 x0 x3).f3) = x8 then (if (((rd_T140 x0 x3).f6) != (x8 == (wrap64 (x3 + 1)))) = true then (some false) else (tumbrelref09_Formed.l0 k x0 x13 (wrap64 (x14 + 1)))) else (some false)) else (some false)) else (none)) else (none))
def tumbrelref09_Formed.l1 : Nat → List (S140) → Int → Bool → Int → Int → Int → Option (Bool)
 | 0, _, _, _, _, _, _ => none
 | k + 1, x0, x3, x4, x5, x13, x14 => if x5 ≥ 0 then (if x4 = true then (tumbrelref09_Formed.j2 k x0 x3 x4 x13 x14) else (if 0 ≤ x3 then (if x3 < (x0.length : Int) then (if 0 ≤ x5 then (if x5 < (x0.length : Int) then (tumbrelref09_Formed.l1 k x0 x3 (((rd_T140 x0 x3).f1) == x5) ((rd_T140 x0 x5).f1) x13 x14) else (none)) else (none)) else (none)) else (none))) else (tumbrelref09_Formed.j2 k x0 x3 x4 x13 x14)
end
def tumbrelref09_Formed.f (k : Nat) (l0 : List (S140)) : Option (Bool) := if (l0.length : Int) > 40 then (some false) else (tumbrelref09_Formed.l0 k l0 (l0.length : Int) 0)
theorem tumbrelref09_Formed.mono_l : ∀ k, (∀ y0 y1 y2, LeO (tumbrelref09_Formed.l0 k y0 y1 y2) (tumbrelref09_Formed.l0 (k + 1) y0 y1 y2)) ∧ (∀ y0 y1 y2 y3 y4, LeO (tumbrelref09_Formed.j2 k y0 y1 y2 y3 y4) (tumbrelref09_Formed.j2 (k + 1) y0 y1 y2 y3 y4)) ∧ (∀ y0 y1 y2 y3 y4 y5, LeO (tumbrelref09_Formed.l2 k y0 y1 y2 y3 y4 y5) (tumbrelref09_Formed.l2 (k + 1) y0 y1 y2 y3 y4 y5)) ∧ (∀ y0 y1 y2 y3 y4 y5, LeO (tumbrelref09_Formed.l3 k y0 y1 y2 y3 y4 y5) (tumbrelref09_Formed.l3 (k + 1) y0 y1 y2 y3 y4 y5)) ∧ (∀ y0 y1 y2 y3 y4 y5, LeO (tumbrelref09_Formed.l1 k y0 y1 y2 y3 y4 y5) (tumbrelref09_Formed.l1 (k + 1) y0 y1 y2 y3 y4 y5))
 | 0 => ⟨fun _ _ _ r h => by simp [tumbrelref09_Formed.l0] at h, fun _ _ _ _ _ r h => by simp [tumbrelref09_Formed.j2] at h, fun _ _ _ _ _ _ r h => by simp [tumbrelref09_Formed.l2] at h, fun _ _ _ _ _ _ r h => by simp [tumbrelref09_Formed.l3] at h, fun _ _ _ _ _ _ r h => by simp [tumbrelref09_Formed.l1] at h⟩
 | k + 1 => by
  obtain ⟨ih0, ih1, ih2, ih3, ih4⟩ := tumbrelref09_Formed.mono_l k
  refine ⟨?_, ?_, ?_, ?_, ?_⟩
  ·intro y0 y1 y2
   unfold tumbrelref09_Formed.l0
   repeat' first
   | (with_reducible exact ih0 _ _ _)
   | (with_reducible exact ih1 _ _ _ _ _)
   | (with_reducible exact ih2 _ _ _ _ _ _)
   | (with_reducible exact ih3 _ _ _ _ _ _)
   | (with_reducible exact ih4 _ _ _ _ _ _)
   | (with_reducible exact tumbrelref09_lies.mono _ _ _ _)
   | (with_reducible exact LeO.refl _)
   | (with_reducible exact LeO.none _)
   | (with_reducible refine LeO.ite ?_ ?_)
   | (with_reducible refine LeO.bind ?_ (fun _ => ?_))
   | exact ih0 _ _ _
   | exact ih1 _ _ _ _ _
   | exact ih2 _ _ _ _ _ _
   | exact ih3 _ _ _ _ _ _
   | exact ih4 _ _ _ _ _ _
   | exact tumbrelref09_lies.mono _ _ _ _
   | exact LeO.none _
   | refine LeO.ite ?_ ?_
   | refine LeO.bind ?_ (fun _ => ?_)
  ·intro y0 y1 y2 y3 y4
   unfold tumbrelref09_Formed.j2
   repeat' first
   | (with_reducible exact ih0 _ _ _)
   | (with_reducible exact ih1 _ _ _ _ _)
   | (with_reducible exact ih2 _ _ _ _ _ _)
   | (with_reducible exact ih3 _ _ _ _ _ _)
   | (with_reducible exact ih4 _ _ _ _ _ _)
   | (with_reducible exact tumbrelref09_lies.mono _ _ _ _)
   | (with_reducible exact LeO.refl _)
   | (with_reducible exact LeO.none _)
   | (with_reducible refine LeO.ite ?_ ?_)
   | (with_reducible refine LeO.bind ?_ (fun _ => ?_))
   | exact ih0 _ _ _
   | exact ih1 _ _ _ _ _
   | exact ih2 _ _ _ _ _ _
   | exact ih3 _ _ _ _ _ _
   | exact ih4 _ _ _ _ _ _
   | exact tumbrelref09_lies.mono _ _ _ _
   | exact LeO.none _
   | refine LeO.ite ?_ ?_
   | refine LeO.bind ?_ (fun _ => ?_)
  ·intro y0 y1 y2 y3 y4 y5
   unfold tumbrelref09_Formed.l2
   repeat' first
   | (with_reducible exact ih0 _ _ _)
   | (with_reducible exact ih1 _ _ _ _ _)
   | (with_reducible exact ih2 _ _ _ _ _ _)
   | (with_reducible exact ih3 _ _ _ _ _ _)
   | (with_reducible exact ih4 _ _ _ _ _ _)
   | (with_reducible exact tumbrelref09_lies.mono _ _ _ _)
   | (with_reducible exact LeO.refl _)
   | (with_reducible exact LeO.none _)
   | (with_reducible refine LeO.ite ?_ ?_)
   | (with_reducible refine LeO.bind ?_ (fun _ => ?_))
   | exact ih0 _ _ _
   | exact ih1 _ _ _ _ _
   | exact ih2 _ _ _ _ _ _
   | exact ih3 _ _ _ _ _ _
   | exact ih4 _ _ _ _ _ _
   | exact tumbrelref09_lies.mono _ _ _ _
   | exact LeO.none _
   | refine LeO.ite ?_ ?_
   | refine LeO.bind ?_ (fun _ => ?_)
  ·intro y0 y1 y2 y3 y4 y5
   unfold tumbrelref09_Formed.l3
   repeat' first
   | (with_reducible exact ih0 _ _ _)
   | (with_reducible exact ih1 _ _ _ _ _)
   | (with_reducible exact ih2 _ _ _ _ _ _)
   | (with_reducible exact ih3 _ _ _ _ _ _)
   | (with_reducible exact ih4 _ _ _ _ _ _)
   | (with_reducible exact tumbrelref09_lies.mono _ _ _ _)
   | (with_reducible exact LeO.refl _)
   | (with_reducible exact LeO.none _)
   | (with_reducible refine LeO.ite ?_ ?_)
   | (with_reducible refine LeO.bind ?_ (fun _ => ?_))
   | exact ih0 _ _ _
   | exact ih1 _ _ _ _ _
   | exact ih2 _ _ _ _ _ _
   | exact ih3 _ _ _ _ _ _
   | exact ih4 _ _ _ _ _ _
   | exact tumbrelref09_lies.mono _ _ _ _
   | exact LeO.none _
   | refine LeO.ite ?_ ?_
   | refine LeO.bind ?_ (fun _ => ?_)
  ·intro y0 y1 y2 y3 y4 y5
   unfold tumbrelref09_Formed.l1
   repeat' first
   | (with_reducible exact ih0 _ _ _)
   | (with_reducible exact ih1 _ _ _ _ _)
   | (with_reducible exact ih2 _ _ _ _ _ _)
   | (with_reducible exact ih3 _ _ _ _ _ _)
   | (with_reducible exact ih4 _ _ _ _ _ _)
   | (with_reducible exact tumbrelref09_lies.mono _ _ _ _)
   | (with_reducible exact LeO.refl _)
   | (with_reducible exact LeO.none _)
   | (with_reducible refine LeO.ite ?_ ?_)
   | (with_reducible refine LeO.bind ?_ (fun _ => ?_))
   | exact ih0 _ _ _
   | exact ih1 _ _ _ _ _
   | exact ih2 _ _ _ _ _ _
   | exact ih3 _ _ _ _ _ _
   | exact ih4 _ _ _ _ _ _
   | exact tumbrelref09_lies.mono _ _ _ _
   | exact LeO.none _
   | refine LeO.ite ?_ ?_
   | refine LeO.bind ?_ (fun _ => ?_)
theorem tumbrelref09_Formed.mono : ∀ a0 k, LeO (tumbrelref09_Formed.f k a0) (tumbrelref09_Formed.f (k + 1) a0) := by
 intro a0 k
 obtain ⟨ih0, ih1, ih2, ih3, ih4⟩ := tumbrelref09_Formed.mono_l k
 unfold tumbrelref09_Formed.f
 repeat' first
   | (with_reducible exact ih0 _ _ _)
   | (with_reducible exact ih1 _ _ _ _ _)
   | (with_reducible exact ih2 _ _ _ _ _ _)
   | (with_reducible exact ih3 _ _ _ _ _ _)
   | (with_reducible exact ih4 _ _ _ _ _ _)
   | (with_reducible exact tumbrelref09_lies.mono _ _ _ _)
   | (with_reducible exact LeO.refl _)
   | (with_reducible exact LeO.none _)
   | (with_reducible refine LeO.ite ?_ ?_)
   | (with_reducible refine LeO.bind ?_ (fun _ => ?_))
   | exact ih0 _ _ _
   | exact ih1 _ _ _ _ _
   | exact ih2 _ _ _ _ _ _
   | exact ih3 _ _ _ _ _ _
   | exact ih4 _ _ _ _ _ _
   | exact tumbrelref09_lies.mono _ _ _ _
   | exact LeO.none _
   | refine LeO.ite ?_ ?_
   | refine LeO.bind ?_ (fun _ => ?_)
set_option maxHeartbeats 8000000 in
set_option maxRecDepth 100000 in
theorem tumbrelref09_Formed.calls (k : Nat) (A0 : Option Addr) (c0 : Nat) (l0 : List (S140)) (r : Bool) (w : World) (hr0 : Kd.C k140 w A0 l0.length l0) (hc0 : l0.length ≤ c0) (h : tumbrelref09_Formed.f k l0 = some r) :
  Calls Try.prog 86 #[.slice A0 l0.length c0] w fun e w' => e = .returned (.bool r) ∧ Drawn0 w w' := by
 have HR0 := Aside0.mk hr0
 have HC0 := Aside0.mk hc0
 clear hr0 hc0
 have H : (if (l0.length : Int) > 40 then (some false) else (tumbrelref09_Formed.l0 k l0 (l0.length : Int) 0)) = some r := h
 clear h
 by_cases c2 : (l0.length : Int) > 40
 ·rw [if_pos c2] at H
  have c2b0 : decide (40 < (l0.length : Int)) = true := decide_eq_true c2
  have c2b1 : decide (40 < l0.length) = true := decide_eq_true (by omega)
  clear c2
  obtain rfl := Option.some.inj H
  go_enter Try.func86, Try.ntmps86
  go_wp2
  go_ret
  exact ⟨by first | rfl | (simp; done) | (simp [*]; done), by repeat (first | exact Drawn0.refl _ | apply Drawn0.step)⟩
 ·rw [if_neg c2] at H
  have c2b0 : decide (40 < (l0.length : Int)) = false := decide_eq_false c2
  have c2b1 : decide (40 < l0.length) = false := decide_eq_false (by omega)
  clear c2
  have H' := Aside0.mk H
  clear H
  go_enter Try.func86, Try.ntmps86
  go_wp2
  go_loopg [14] k (fun kq v14 w' => ∃ (x14_1 : Int), v14 = .int .i64 x14_1 ∧ Aside0 (tumbrelref09_Formed.l0 kq l0 (l0.length : Int) x14_1 = some r) ∧ Aside0 (kq ≤ k) ∧ Drawn0 w w')
  case atStart => exact ⟨(0), kz6_2, H', ⟨Nat.le_refl _⟩, by repeat (first | exact Drawn0.refl _ | apply Drawn0.step)⟩
  case round =>
   clear H'
   try clear c2
   try clear c2b0
   try clear c2b1
   try clear p2
   obtain ⟨x14_1, rfl, HA, HK1, ⟨m1, rfl⟩⟩ := hrel
   cases gk with
   | zero => exact absurd HA.out (by simp [tumbrelref09_Formed.l0])
   | succ k1 =>
    have H := HA.out
    clear HA
    simp only [tumbrelref09_Formed.l0] at H
    by_cases c3 : x14_1 < (l0.length : Int)
    ·rw [if_pos c3] at H
     have c3b0 : decide (x14_1 < (l0.length : Int)) = true := decide_eq_true c3
     clear c3
     by_cases c4 : 0 ≤ x14_1
     ·rw [if_pos c4] at H
      have c4b0 : decide (0 ≤ x14_1) = true := decide_eq_true c4
      clear c4
      by_cases c5 : x14_1 < (l0.length : Int)
      ·rw [if_pos c5] at H
       have c5b0 : decide (x14_1 < (l0.length : Int)) = true := decide_eq_true c5
       clear c5
       have HC6 := Aside0.mk H
       clear H
       have p165 : 0 ≤ (x14_1 : Int) := of_decide_eq_true kz6_1
       have q165 : x14_1 < (l0.length : Int) := of_decide_eq_true kz6_1
       obtain ⟨ad165, e165, hx165_0, hx165_1, hx165_2, hx165_3, hx165_4, hx165_5, hx165_6⟩ := at_T140 HR0.out x14_1 p165 q165
       cases e165
       replace p165 := eq_true p165
       replace q165 := eq_true q165
       go_upto_block 2 with (fail)
       go_cut [4] (fun v4 wc => ∃ (kq : Nat) (x4_5 : Bool), v4 = .bool x4_5 ∧ Aside0 (tumbrelref09_Formed.j2 kq l0 x14_1 x4_5 (l0.length : Int) x14_1 = some r) ∧ Aside0 (kq ≤ k1) ∧ Drawn0 w wc)
       case first =>
        have H := HC6.out
        clear HC6
        have H' := Aside0.mk H
        clear H
        go_wp2
        go_loopg [4, 5] k1 (fun kq v4 v5 w' => ∃ (x4_2 : Bool) (x5_2 : Int), v4 = .bool x4_2 ∧ v5 = .int .i64 x5_2 ∧ Aside0 (tumbrelref09_Formed.l1 kq l0 x14_1 x4_2 x5_2 (l0.length : Int) x14_1 = some r) ∧ Aside0 (kq ≤ k1) ∧ Drawn0 w w')
        case atStart => exact ⟨((((rd_T140 l0 x14_1).f1) == (-1))), (wrap64 (x14_1 - 1)), kz6_2, kz6_2, H', ⟨Nat.le_refl _⟩, by repeat (first | exact Drawn0.refl _ | apply Drawn0.step)⟩
        case round =>
         clear H'
         try clear p1
         try clear q1
         try clear hx1
         try clear c2
         try clear c2b0
         try clear c2b1
         try clear p2
         try clear c3
         try clear c3b0
         try clear c4
         try clear c4b0
         try clear c5
         try clear c5b0
         try clear p6
         try clear hx165_0
         try clear hx165_1
         try clear hx165_2
         try clear hx165_3
         try clear hx165_4
         try clear hx165_5
         try clear hx165_6
         try clear p165
         try clear p2
         try clear q165
         obtain ⟨x4_2, x5_2, rfl, rfl, HA, HK2, ⟨m2, rfl⟩⟩ := hrel
         cases gk with
         | zero => exact absurd HA.out (by simp [tumbrelref09_Formed.l1])
         | succ k2 =>
          have H := HA.out
          clear HA
          simp only [tumbrelref09_Formed.l1] at H
          by_cases c7 : x5_2 ≥ 0
          ·rw [if_pos c7] at H
           have c7b0 : decide (0 ≤ x5_2) = true := decide_eq_true c7
           clear c7
           (first | rw [c7b0] | (simp only [i64_w, i32_w]; rw [c7b0]) | skip)
           by_cases c8 : x4_2 = true
           ·subst c8
            have H1 : (tumbrelref09_Formed.j2 k2 l0 x14_1 true (l0.length : Int) x14_1) = some r := by rw [if_pos rfl] at H; exact H
            clear H
            have H := H1
            clear H1
            have H' := Aside0.mk H
            clear H
            go_wp2
            go_meet
            case rel => exact ⟨_, (true), kz6_2, H', ⟨by have := HK1.out; have := HK2.out; first | omega | exact Nat.le_refl _⟩, by repeat (first | exact Drawn0.refl _ | apply Drawn0.step)⟩
           ·replace c8 := Bool.eq_false_iff.mpr c8
            subst c8
            have H1 : (if 0 ≤ x14_1 then (if x14_1 < (l0.length : Int) then (if 0 ≤ x5_2 then (if x5_2 < (l0.length : Int) then (tumbrelref09_Formed.l1 k2 l0 x14_1 (((rd_T140 l0 x14_1).f1) == x5_2) ((rd_T140 l0 x5_2).f1) (l0.length : Int) x14_1) else (none)) else (none)) else (none)) else (none)) = some r := by rw [if_neg (show ¬ (false = true) by decide)] at H; exact H
            clear H
            have H := H1
            clear H1
            by_cases c9 : 0 ≤ x14_1
            ·rw [if_pos c9] at H
             have c9b0 : decide (0 ≤ x14_1) = true := decide_eq_true c9
             clear c9
             by_cases c10 : x14_1 < (l0.length : Int)
             ·rw [if_pos c10] at H
              have c10b0 : decide (x14_1 < (l0.length : Int)) = true := decide_eq_true c10
              clear c10
              by_cases c11 : 0 ≤ x5_2
              ·rw [if_pos c11] at H
               have c11b0 : decide (0 ≤ x5_2) = true := decide_eq_true c11
               clear c11
               by_cases c12 : x5_2 < (l0.length : Int)
               ·rw [if_pos c12] at H
                have c12b0 : decide (x5_2 < (l0.length : Int)) = true := decide_eq_true c12
                clear c12
                have H' := Aside0.mk H
                clear H
                have p166 : 0 ≤ (x14_1 : Int) := of_decide_eq_true kz6_1
                have q166 : x14_1 < (l0.length : Int) := of_decide_eq_true kz6_1
                obtain ⟨ad166, e166, hx166_0, hx166_1, hx166_2, hx166_3, hx166_4, hx166_5, hx166_6⟩ := at_T140 HR0.out x14_1 p166 q166
                obtain rfl : ad165 = ad166 := (by injection e166)
                replace p166 := eq_true p166
                replace q166 := eq_true q166
                have p167 : 0 ≤ (x5_2 : Int) := of_decide_eq_true kz6_1
                have q167 : x5_2 < (l0.length : Int) := of_decide_eq_true kz6_1
                obtain ⟨ad167, e167, hx167_0, hx167_1, hx167_2, hx167_3, hx167_4, hx167_5, hx167_6⟩ := at_T140 HR0.out x5_2 p167 q167
                obtain rfl : ad165 = ad167 := (by injection e167)
                replace p167 := eq_true p167
                replace q167 := eq_true q167
                go_wp2
                go_roundg k2
                case measure => have := HK1.out; have := HK2.out; omega
                case rel => exact ⟨((((rd_T140 l0 x14_1).f1) == x5_2)), ((rd_T140 l0 x5_2).f1), kz6_2, kz6_2, H', ⟨by have := HK1.out; have := HK2.out; omega⟩, by repeat (first | exact Drawn0.refl _ | apply Drawn0.step)⟩
               ·rw [if_neg c12] at H
                exact absurd H (by simp)
              ·rw [if_neg c11] at H
               exact absurd H (by simp)
             ·rw [if_neg c10] at H
              exact absurd H (by simp)
            ·rw [if_neg c9] at H
             exact absurd H (by simp)
          ·rw [if_neg c7] at H
           have c7b0 : decide (0 ≤ x5_2) = false := decide_eq_false c7
           clear c7
           (first | rw [c7b0] | (simp only [i64_w, i32_w]; rw [c7b0]) | skip)
           have H' := Aside0.mk H
           clear H
           go_wp2
           go_meet
           case rel => exact ⟨_, (x4_2), kz6_2, H', ⟨by have := HK1.out; have := HK2.out; first | omega | exact Nat.le_refl _⟩, by repeat (first | exact Drawn0.refl _ | apply Drawn0.step)⟩
       case rest =>
        clear HC6
        try clear c1
        try clear p1
        try clear q1
        try clear hx1
        try clear c2
        try clear c2b0
        try clear c2b1
        try clear p2
        try clear c3
        try clear c3b0
        try clear c4
        try clear c4b0
        try clear c5
        try clear c5b0
        try clear p6
        try clear c7
        try clear c7b0
        try clear c8
        try clear c9
        try clear c9b0
        try clear c10
        try clear c10b0
        try clear c11
        try clear c11b0
        try clear c12
        try clear c12b0
        try clear hx165_0
        try clear hx165_1
        try clear hx165_2
        try clear hx165_3
        try clear hx165_4
        try clear hx165_5
        try clear hx165_6
        try clear hx166_0
        try clear hx166_1
        try clear hx166_2
        try clear hx166_3
        try clear hx166_4
        try clear hx166_5
        try clear hx166_6
        try clear hx167_0
        try clear hx167_1
        try clear hx167_2
        try clear hx167_3
        try clear hx167_4
        try clear hx167_5
        try clear hx167_6
        try clear p1
        try clear p165
        try clear p166
        try clear p167
        try clear p2
        try clear p6
        try clear q1
        try clear q165
        try clear q166
        try clear q167
        obtain ⟨kq, x4_5, rfl, HA, HJ5, ⟨mc5, rfl⟩⟩ := hcut
        cases kq with
        | zero => exact absurd HA.out (by simp [tumbrelref09_Formed.j2])
        | succ kj5 =>
         have H := HA.out
         clear HA
         simp only [tumbrelref09_Formed.j2] at H
         by_cases c13 : x4_5 = true
         ·subst c13
          have H1 : (if 0 ≤ x14_1 then (if x14_1 < (l0.length : Int) then (tumbrelref09_Formed.l2 kj5 l0 x14_1 0 ((rd_T140 l0 x14_1).f1) (l0.length : Int) x14_1) else (none)) else (none)) = some r := by rw [if_pos rfl] at H; exact H
          clear H
          have H := H1
          clear H1
          by_cases c14 : 0 ≤ x14_1
          ·rw [if_pos c14] at H
           have c14b0 : decide (0 ≤ x14_1) = true := decide_eq_true c14
           clear c14
           by_cases c15 : x14_1 < (l0.length : Int)
           ·rw [if_pos c15] at H
            have c15b0 : decide (x14_1 < (l0.length : Int)) = true := decide_eq_true c15
            clear c15
            have H' := Aside0.mk H
            clear H
            have p168 : 0 ≤ (x14_1 : Int) := of_decide_eq_true kz6_1
            have q168 : x14_1 < (l0.length : Int) := of_decide_eq_true kz6_1
            obtain ⟨ad168, e168, hx168_0, hx168_1, hx168_2, hx168_3, hx168_4, hx168_5, hx168_6⟩ := at_T140 HR0.out x14_1 p168 q168
            obtain rfl : ad165 = ad168 := (by injection e168)
            replace p168 := eq_true p168
            replace q168 := eq_true q168
            go_wp2
            go_loopg [6, 7] kj5 (fun kq v6 v7 w' => ∃ (x6_3 : Int) (x7_3 : Int), v6 = .int .i64 x6_3 ∧ v7 = .int .i64 x7_3 ∧ Aside0 (tumbrelref09_Formed.l2 kq l0 x14_1 x6_3 x7_3 (l0.length : Int) x14_1 = some r) ∧ Aside0 (kq ≤ kj5) ∧ Drawn0 w w')
            case atStart => exact ⟨(0), ((rd_T140 l0 x14_1).f1), kz6_2, kz6_2, H', ⟨Nat.le_refl _⟩, by repeat (first | exact Drawn0.refl _ | apply Drawn0.step)⟩
            case round =>
             clear H'
             try clear c1
             try clear p1
             try clear q1
             try clear hx1
             try clear c2
             try clear c2b0
             try clear c2b1
             try clear p2
             try clear c3
             try clear c3b0
             try clear c4
             try clear c4b0
             try clear c5
             try clear c5b0
             try clear p6
             try clear c7
             try clear c7b0
             try clear c8
             try clear c9
             try clear c9b0
             try clear c10
             try clear c10b0
             try clear c11
             try clear c11b0
             try clear c12
             try clear c12b0
             try clear c13
             try clear c14
             try clear c14b0
             try clear c15
             try clear c15b0
             try clear hx165_0
             try clear hx165_1
             try clear hx165_2
             try clear hx165_3
             try clear hx165_4
             try clear hx165_5
             try clear hx165_6
             try clear hx166_0
             try clear hx166_1
             try clear hx166_2
             try clear hx166_3
             try clear hx166_4
             try clear hx166_5
             try clear hx166_6
             try clear hx167_0
             try clear hx167_1
             try clear hx167_2
             try clear hx167_3
             try clear hx167_4
             try clear hx167_5
             try clear hx167_6
             try clear hx168_0
             try clear hx168_1
             try clear hx168_2
             try clear hx168_3
             try clear hx168_4
             try clear hx168_5
             try clear hx168_6
             try clear p1
             try clear p165
             try clear p166
             try clear p167
             try clear p168
             try clear p2
             try clear p6
             try clear q1
             try clear q165
             try clear q166
             try clear q167
             try clear q168
             obtain ⟨x6_3, x7_3, rfl, rfl, HA, HK3, ⟨m3, rfl⟩⟩ := hrel
             cases gk with
             | zero => exact absurd HA.out (by simp [tumbrelref09_Formed.l2])
             | succ k3 =>
              have H := HA.out
              clear HA
              simp only [tumbrelref09_Formed.l2] at H
              by_cases c16 : x7_3 ≥ 0
              ·rw [if_pos c16] at H
               have c16b0 : decide (0 ≤ x7_3) = true := decide_eq_true c16
               clear c16
               by_cases c17 : 0 ≤ x7_3
               ·rw [if_pos c17] at H
                have c17b0 : decide (0 ≤ x7_3) = true := decide_eq_true c17
                clear c17
                by_cases c18 : x7_3 < (l0.length : Int)
                ·rw [if_pos c18] at H
                 have c18b0 : decide (x7_3 < (l0.length : Int)) = true := decide_eq_true c18
                 clear c18
                 have H' := Aside0.mk H
                 clear H
                 have p169 : 0 ≤ (x7_3 : Int) := of_decide_eq_true kz6_1
                 have q169 : x7_3 < (l0.length : Int) := of_decide_eq_true kz6_1
                 obtain ⟨ad169, e169, hx169_0, hx169_1, hx169_2, hx169_3, hx169_4, hx169_5, hx169_6⟩ := at_T140 HR0.out x7_3 p169 q169
                 obtain rfl : ad165 = ad169 := (by injection e169)
                 replace p169 := eq_true p169
                 replace q169 := eq_true q169
                 go_wp2
                 go_roundg k3
                 case measure => have := HK1.out; have := HJ5.out; have := HK3.out; omega
                 case rel => exact ⟨(wrap64 (x6_3 + 1)), ((rd_T140 l0 x7_3).f1), kz6_2, kz6_2, H', ⟨by have := HK1.out; have := HJ5.out; have := HK3.out; omega⟩, by repeat (first | exact Drawn0.refl _ | apply Drawn0.step)⟩
                ·rw [if_neg c18] at H
                 exact absurd H (by simp)
               ·rw [if_neg c17] at H
                exact absurd H (by simp)
              ·rw [if_neg c16] at H
               have c16b0 : decide (0 ≤ x7_3) = false := decide_eq_false c16
               clear c16
               have H' := Aside0.mk H
               clear H
               go_wp2
               go_loopg [8] k3 (fun kq v8 w' => ∃ (x8_4 : Int), v8 = .int .i64 x8_4 ∧ Aside0 (tumbrelref09_Formed.l3 kq l0 x14_1 x6_3 x8_4 (l0.length : Int) x14_1 = some r) ∧ Aside0 (kq ≤ k3) ∧ Drawn0 w w')
               case atStart => exact ⟨(wrap64 (x14_1 + 1)), kz6_2, H', ⟨Nat.le_refl _⟩, by repeat (first | exact Drawn0.refl _ | apply Drawn0.step)⟩
               case round =>
                clear H'
                try clear c1
                try clear p1
                try clear q1
                try clear hx1
                try clear c2
                try clear c2b0
                try clear c2b1
                try clear p2
                try clear c3
                try clear c3b0
                try clear c4
                try clear c4b0
                try clear c5
                try clear c5b0
                try clear p6
                try clear c7
                try clear c7b0
                try clear c8
                try clear c9
                try clear c9b0
                try clear c10
                try clear c10b0
                try clear c11
                try clear c11b0
                try clear c12
                try clear c12b0
                try clear c13
                try clear c14
                try clear c14b0
                try clear c15
                try clear c15b0
                try clear c16
                try clear c16b0
                try clear p16
                try clear q16
                try clear hx16
                try clear c17
                try clear c17b0
                try clear c18
                try clear c18b0
                try clear hx165_0
                try clear hx165_1
                try clear hx165_2
                try clear hx165_3
                try clear hx165_4
                try clear hx165_5
                try clear hx165_6
                try clear hx166_0
                try clear hx166_1
                try clear hx166_2
                try clear hx166_3
                try clear hx166_4
                try clear hx166_5
                try clear hx166_6
                try clear hx167_0
                try clear hx167_1
                try clear hx167_2
                try clear hx167_3
                try clear hx167_4
                try clear hx167_5
                try clear hx167_6
                try clear hx168_0
                try clear hx168_1
                try clear hx168_2
                try clear hx168_3
                try clear hx168_4
                try clear hx168_5
                try clear hx168_6
                try clear hx169_0
                try clear hx169_1
                try clear hx169_2
                try clear hx169_3
                try clear hx169_4
                try clear hx169_5
                try clear hx169_6
                try clear p1
                try clear p165
                try clear p166
                try clear p167
                try clear p168
                try clear p169
                try clear p2
                try clear p6
                try clear q1
                try clear q165
                try clear q166
                try clear q167
                try clear q168
                try clear q169
                obtain ⟨x8_4, rfl, HA, HK4, ⟨m4, rfl⟩⟩ := hrel
                cases gk with
                | zero => exact absurd HA.out (by simp [tumbrelref09_Formed.l3])
                | succ k4 =>
                 have H := HA.out
                 clear HA
                 simp only [tumbrelref09_Formed.l3] at H
                 by_cases c19 : x8_4 < (l0.length : Int)
                 ·rw [if_pos c19] at H
                  have c19b0 : decide (x8_4 < (l0.length : Int)) = true := decide_eq_true c19
                  clear c19
                  replace H := Option.bind_eq_some_iff.mp H
                  obtain ⟨t170, A200, H⟩ := H
                  replace H : (if t170 = true then (tumbrelref09_Formed.l3 k4 l0 x14_1 x6_3 (wrap64 (x8_4 + 1)) (l0.length : Int) x14_1) else (if 0 ≤ x14_1 then (if x14_1 < (l0.length : Int) then (if ((rd_T140 l0 x14_1).f2) = x6_3 then (if ((rd_T140 l0 x14_1).f3) = x8_4 then (if (((rd_T140 l0 x14_1).f6) != (x8_4 == (wrap64 (x14_1 + 1)))) = true then (some false) else (tumbrelref09_Formed.l0 k4 l0 (l0.length : Int) (wrap64 (x14_1 + 1)))) else (some false)) else (some false)) else (none)) else (none))) = some r := H
                  have A20 := Aside0.mk A200
                  clear A200
                  by_cases c21 : t170 = true
                  ·subst c21
                   have H1 : (tumbrelref09_Formed.l3 k4 l0 x14_1 x6_3 (wrap64 (x8_4 + 1)) (l0.length : Int) x14_1) = some r := by rw [if_pos rfl] at H; exact H
                   clear H
                   have H := H1
                   clear H1
                   have H' := Aside0.mk H
                   clear H
                   go_wp2_with (first | (go_at_call 113; (with_reducible refine (tumbrelref09_lies.calls k4 _ _ l0 x8_4 x14_1 true _ ?side1 ?side2 A20.out).mono ?_); (case side1 => repeat (first | exact HR0.out | (with_reducible refine Kd.C_alloc ?_ _) | (with_reducible refine Kd.C_drewN ?_ _) | (with_reducible refine Kd.C_drew ?_))); (case side2 => exact HC0.out); rintro e w' ⟨rfl, ⟨nd, rfl⟩⟩))
                   go_roundg k4
                   case measure => have := HK1.out; have := HJ5.out; have := HK3.out; have := HK4.out; omega
                   case rel => exact ⟨(wrap64 (x8_4 + 1)), kz6_2, H', ⟨by have := HK1.out; have := HJ5.out; have := HK3.out; have := HK4.out; omega⟩, by repeat (first | exact Drawn0.refl _ | apply Drawn0.step)⟩
                  ·replace c21 := Bool.eq_false_iff.mpr c21
                   subst c21
                   have H1 : (if 0 ≤ x14_1 then (if x14_1 < (l0.length : Int) then (if ((rd_T140 l0 x14_1).f2) = x6_3 then (if ((rd_T140 l0 x14_1).f3) = x8_4 then (if (((rd_T140 l0 x14_1).f6) != (x8_4 == (wrap64 (x14_1 + 1)))) = true then (some false) else (tumbrelref09_Formed.l0 k4 l0 (l0.length : Int) (wrap64 (x14_1 + 1)))) else (some false)) else (some false)) else (none)) else (none)) = some r := by rw [if_neg (show ¬ (false = true) by decide)] at H; exact H
                   clear H
                   have H := H1
                   clear H1
                   by_cases c22 : 0 ≤ x14_1
                   ·rw [if_pos c22] at H
                    have c22b0 : decide (0 ≤ x14_1) = true := decide_eq_true c22
                    clear c22
                    by_cases c23 : x14_1 < (l0.length : Int)
                    ·rw [if_pos c23] at H
                     have c23b0 : decide (x14_1 < (l0.length : Int)) = true := decide_eq_true c23
                     clear c23
                     by_cases c24 : ((rd_T140 l0 x14_1).f2) = x6_3
                     ·rw [if_pos c24] at H
                      have c24b0 : (((rd_T140 l0 x14_1).f2) == x6_3) = true := beq_iff_eq.mpr c24
                      have c24b1 : (((rd_T140 l0 x14_1).f2) != x6_3) = false := bne_eq_false_iff_eq.mpr c24
                      clear c24
                      by_cases c25 : ((rd_T140 l0 x14_1).f3) = x8_4
                      ·rw [if_pos c25] at H
                       have c25b0 : (((rd_T140 l0 x14_1).f3) == x8_4) = true := beq_iff_eq.mpr c25
                       have c25b1 : (((rd_T140 l0 x14_1).f3) != x8_4) = false := bne_eq_false_iff_eq.mpr c25
                       clear c25
                       by_cases c26 : (((rd_T140 l0 x14_1).f6) != (x8_4 == (wrap64 (x14_1 + 1)))) = true
                       ·rw [if_pos c26] at H
                        have c26b0 : (((rd_T140 l0 x14_1).f6) != (x8_4 == (wrap64 (x14_1 + 1)))) = true := c26
                        (try (have c26b1 : decide (((rd_T140 l0 x14_1).f6) = (x8_4 == (wrap64 (x14_1 + 1)))) = false := by simpa using c26))
                        (try (have c26b2 : (((rd_T140 l0 x14_1).f6) == (x8_4 == (wrap64 (x14_1 + 1)))) = false := by simpa using c26))
                        (try (have c26b3 : ¬ (((rd_T140 l0 x14_1).f6) = (x8_4 == (wrap64 (x14_1 + 1)))) := by simpa using c26))
                        clear c26
                        obtain rfl := Option.some.inj H
                        go_wp2_with (first | (go_at_call 113; (with_reducible refine (tumbrelref09_lies.calls k4 _ _ l0 x8_4 x14_1 false _ ?side1 ?side2 A20.out).mono ?_); (case side1 => repeat (first | exact HR0.out | (with_reducible refine Kd.C_alloc ?_ _) | (with_reducible refine Kd.C_drewN ?_ _) | (with_reducible refine Kd.C_drew ?_))); (case side2 => exact HC0.out); rintro e w' ⟨rfl, ⟨nd, rfl⟩⟩; have p171 : 0 ≤ (x14_1 : Int) := of_decide_eq_true kz6_1; have q171 : x14_1 < (l0.length : Int) := of_decide_eq_true kz6_1; obtain ⟨ad171, e171, hx171_0, hx171_1, hx171_2, hx171_3, hx171_4, hx171_5, hx171_6⟩ := at_T140 HR0.out x14_1 p171 q171; obtain rfl : ad165 = ad171 := (by injection e171); replace p171 := eq_true p171; replace q171 := eq_true q171; have p172 : 0 ≤ (x14_1 : Int) := of_decide_eq_true kz6_1; have q172 : x14_1 < (l0.length : Int) := of_decide_eq_true kz6_1; obtain ⟨ad172, e172, hx172_0, hx172_1, hx172_2, hx172_3, hx172_4, hx172_5, hx172_6⟩ := at_T140 HR0.out x14_1 p172 q172; obtain rfl : ad165 = ad172 := (by injection e172); replace p172 := eq_true p172; replace q172 := eq_true q172; have p173 : 0 ≤ (x14_1 : Int) := of_decide_eq_true kz6_1; have q173 : x14_1 < (l0.length : Int) := of_decide_eq_true kz6_1; obtain ⟨ad173, e173, hx173_0, hx173_1, hx173_2, hx173_3, hx173_4, hx173_5, hx173_6⟩ := at_T140 HR0.out x14_1 p173 q173; obtain rfl : ad165 = ad173 := (by injection e173); replace p173 := eq_true p173; replace q173 := eq_true q173))
                        go_ret
                        exact ⟨by first | rfl | (simp; done) | (simp [*]; done), by repeat (first | exact Drawn0.refl _ | apply Drawn0.step)⟩
                       ·rw [if_neg c26] at H
                        have c26b0 : (((rd_T140 l0 x14_1).f6) != (x8_4 == (wrap64 (x14_1 + 1)))) = false := by simpa using c26
                        (try (have c26b1 : decide (((rd_T140 l0 x14_1).f6) = (x8_4 == (wrap64 (x14_1 + 1)))) = true := by simpa using c26))
                        (try (have c26b2 : (((rd_T140 l0 x14_1).f6) == (x8_4 == (wrap64 (x14_1 + 1)))) = true := by simpa using c26))
                        clear c26
                        have H' := Aside0.mk H
                        clear H
                        go_wp2_with (first | (go_at_call 113; (with_reducible refine (tumbrelref09_lies.calls k4 _ _ l0 x8_4 x14_1 false _ ?side1 ?side2 A20.out).mono ?_); (case side1 => repeat (first | exact HR0.out | (with_reducible refine Kd.C_alloc ?_ _) | (with_reducible refine Kd.C_drewN ?_ _) | (with_reducible refine Kd.C_drew ?_))); (case side2 => exact HC0.out); rintro e w' ⟨rfl, ⟨nd, rfl⟩⟩; have p171 : 0 ≤ (x14_1 : Int) := of_decide_eq_true kz6_1; have q171 : x14_1 < (l0.length : Int) := of_decide_eq_true kz6_1; obtain ⟨ad171, e171, hx171_0, hx171_1, hx171_2, hx171_3, hx171_4, hx171_5, hx171_6⟩ := at_T140 HR0.out x14_1 p171 q171; obtain rfl : ad165 = ad171 := (by injection e171); replace p171 := eq_true p171; replace q171 := eq_true q171; have p172 : 0 ≤ (x14_1 : Int) := of_decide_eq_true kz6_1; have q172 : x14_1 < (l0.length : Int) := of_decide_eq_true kz6_1; obtain ⟨ad172, e172, hx172_0, hx172_1, hx172_2, hx172_3, hx172_4, hx172_5, hx172_6⟩ := at_T140 HR0.out x14_1 p172 q172; obtain rfl : ad165 = ad172 := (by injection e172); replace p172 := eq_true p172; replace q172 := eq_true q172; have p173 : 0 ≤ (x14_1 : Int) := of_decide_eq_true kz6_1; have q173 : x14_1 < (l0.length : Int) := of_decide_eq_true kz6_1; obtain ⟨ad173, e173, hx173_0, hx173_1, hx173_2, hx173_3, hx173_4, hx173_5, hx173_6⟩ := at_T140 HR0.out x14_1 p173 q173; obtain rfl : ad165 = ad173 := (by injection e173); replace p173 := eq_true p173; replace q173 := eq_true q173))
                        go_roundg k4
                        case measure => have := HK1.out; have := HJ5.out; have := HK3.out; have := HK4.out; omega
                        case rel => exact ⟨(wrap64 (x14_1 + 1)), kz6_2, H', ⟨by have := HK1.out; have := HJ5.out; have := HK3.out; have := HK4.out; omega⟩, by repeat (first | exact Drawn0.refl _ | apply Drawn0.step)⟩
                      ·rw [if_neg c25] at H
                       have c25b0 : (((rd_T140 l0 x14_1).f3) == x8_4) = false := beq_eq_false_iff_ne.mpr c25
                       have c25b1 : (((rd_T140 l0 x14_1).f3) != x8_4) = true := bne_iff_ne.mpr c25
                       obtain rfl := Option.some.inj H
                       go_wp2_with (first | (go_at_call 113; (with_reducible refine (tumbrelref09_lies.calls k4 _ _ l0 x8_4 x14_1 false _ ?side1 ?side2 A20.out).mono ?_); (case side1 => repeat (first | exact HR0.out | (with_reducible refine Kd.C_alloc ?_ _) | (with_reducible refine Kd.C_drewN ?_ _) | (with_reducible refine Kd.C_drew ?_))); (case side2 => exact HC0.out); rintro e w' ⟨rfl, ⟨nd, rfl⟩⟩; have p171 : 0 ≤ (x14_1 : Int) := of_decide_eq_true kz6_1; have q171 : x14_1 < (l0.length : Int) := of_decide_eq_true kz6_1; obtain ⟨ad171, e171, hx171_0, hx171_1, hx171_2, hx171_3, hx171_4, hx171_5, hx171_6⟩ := at_T140 HR0.out x14_1 p171 q171; obtain rfl : ad165 = ad171 := (by injection e171); replace p171 := eq_true p171; replace q171 := eq_true q171; have p172 : 0 ≤ (x14_1 : Int) := of_decide_eq_true kz6_1; have q172 : x14_1 < (l0.length : Int) := of_decide_eq_true kz6_1; obtain ⟨ad172, e172, hx172_0, hx172_1, hx172_2, hx172_3, hx172_4, hx172_5, hx172_6⟩ := at_T140 HR0.out x14_1 p172 q172; obtain rfl : ad165 = ad172 := (by injection e172); replace p172 := eq_true p172; replace q172 := eq_true q172))
                       go_ret
                       exact ⟨by first | rfl | (simp; done) | (simp [*]; done), by repeat (first | exact Drawn0.refl _ | apply Drawn0.step)⟩
                     ·rw [if_neg c24] at H
                      have c24b0 : (((rd_T140 l0 x14_1).f2) == x6_3) = false := beq_eq_false_iff_ne.mpr c24
                      have c24b1 : (((rd_T140 l0 x14_1).f2) != x6_3) = true := bne_iff_ne.mpr c24
                      obtain rfl := Option.some.inj H
                      go_wp2_with (first | (go_at_call 113; (with_reducible refine (tumbrelref09_lies.calls k4 _ _ l0 x8_4 x14_1 false _ ?side1 ?side2 A20.out).mono ?_); (case side1 => repeat (first | exact HR0.out | (with_reducible refine Kd.C_alloc ?_ _) | (with_reducible refine Kd.C_drewN ?_ _) | (with_reducible refine Kd.C_drew ?_))); (case side2 => exact HC0.out); rintro e w' ⟨rfl, ⟨nd, rfl⟩⟩; have p171 : 0 ≤ (x14_1 : Int) := of_decide_eq_true kz6_1; have q171 : x14_1 < (l0.length : Int) := of_decide_eq_true kz6_1; obtain ⟨ad171, e171, hx171_0, hx171_1, hx171_2, hx171_3, hx171_4, hx171_5, hx171_6⟩ := at_T140 HR0.out x14_1 p171 q171; obtain rfl : ad165 = ad171 := (by injection e171); replace p171 := eq_true p171; replace q171 := eq_true q171))
                      go_ret
                      exact ⟨by first | rfl | (simp; done) | (simp [*]; done), by repeat (first | exact Drawn0.refl _ | apply Drawn0.step)⟩
                    ·rw [if_neg c23] at H
                     exact absurd H (by simp)
                   ·rw [if_neg c22] at H
                    exact absurd H (by simp)
                 ·rw [if_neg c19] at H
                  have c19b0 : decide (x8_4 < (l0.length : Int)) = false := decide_eq_false c19
                  clear c19
                  by_cases c27 : 0 ≤ x14_1
                  ·rw [if_pos c27] at H
                   have c27b0 : decide (0 ≤ x14_1) = true := decide_eq_true c27
                   clear c27
                   by_cases c28 : x14_1 < (l0.length : Int)
                   ·rw [if_pos c28] at H
                    have c28b0 : decide (x14_1 < (l0.length : Int)) = true := decide_eq_true c28
                    clear c28
                    by_cases c29 : ((rd_T140 l0 x14_1).f2) = x6_3
                    ·rw [if_pos c29] at H
                     have c29b0 : (((rd_T140 l0 x14_1).f2) == x6_3) = true := beq_iff_eq.mpr c29
                     have c29b1 : (((rd_T140 l0 x14_1).f2) != x6_3) = false := bne_eq_false_iff_eq.mpr c29
                     clear c29
                     by_cases c30 : ((rd_T140 l0 x14_1).f3) = x8_4
                     ·rw [if_pos c30] at H
                      have c30b0 : (((rd_T140 l0 x14_1).f3) == x8_4) = true := beq_iff_eq.mpr c30
                      have c30b1 : (((rd_T140 l0 x14_1).f3) != x8_4) = false := bne_eq_false_iff_eq.mpr c30
                      clear c30
                      by_cases c31 : (((rd_T140 l0 x14_1).f6) != (x8_4 == (wrap64 (x14_1 + 1)))) = true
                      ·rw [if_pos c31] at H
                       have c31b0 : (((rd_T140 l0 x14_1).f6) != (x8_4 == (wrap64 (x14_1 + 1)))) = true := c31
                       (try (have c31b1 : decide (((rd_T140 l0 x14_1).f6) = (x8_4 == (wrap64 (x14_1 + 1)))) = false := by simpa using c31))
                       (try (have c31b2 : (((rd_T140 l0 x14_1).f6) == (x8_4 == (wrap64 (x14_1 + 1)))) = false := by simpa using c31))
                       (try (have c31b3 : ¬ (((rd_T140 l0 x14_1).f6) = (x8_4 == (wrap64 (x14_1 + 1)))) := by simpa using c31))
                       clear c31
                       obtain rfl := Option.some.inj H
                       have p174 : 0 ≤ (x14_1 : Int) := of_decide_eq_true kz6_1
                       have q174 : x14_1 < (l0.length : Int) := of_decide_eq_true kz6_1
                       obtain ⟨ad174, e174, hx174_0, hx174_1, hx174_2, hx174_3, hx174_4, hx174_5, hx174_6⟩ := at_T140 HR0.out x14_1 p174 q174
                       obtain rfl : ad165 = ad174 := (by injection e174)
                       replace p174 := eq_true p174
                       replace q174 := eq_true q174
                       have p175 : 0 ≤ (x14_1 : Int) := of_decide_eq_true kz6_1
                       have q175 : x14_1 < (l0.length : Int) := of_decide_eq_true kz6_1
                       obtain ⟨ad175, e175, hx175_0, hx175_1, hx175_2, hx175_3, hx175_4, hx175_5, hx175_6⟩ := at_T140 HR0.out x14_1 p175 q175
                       obtain rfl : ad165 = ad175 := (by injection e175)
                       replace p175 := eq_true p175
                       replace q175 := eq_true q175
                       have p176 : 0 ≤ (x14_1 : Int) := of_decide_eq_true kz6_1
                       have q176 : x14_1 < (l0.length : Int) := of_decide_eq_true kz6_1
                       obtain ⟨ad176, e176, hx176_0, hx176_1, hx176_2, hx176_3, hx176_4, hx176_5, hx176_6⟩ := at_T140 HR0.out x14_1 p176 q176
                       obtain rfl : ad165 = ad176 := (by injection e176)
                       replace p176 := eq_true p176
                       replace q176 := eq_true q176
                       go_wp2
                       go_ret
                       exact ⟨by first | rfl | (simp; done) | (simp [*]; done), by repeat (first | exact Drawn0.refl _ | apply Drawn0.step)⟩
                      ·rw [if_neg c31] at H
                       have c31b0 : (((rd_T140 l0 x14_1).f6) != (x8_4 == (wrap64 (x14_1 + 1)))) = false := by simpa using c31
                       (try (have c31b1 : decide (((rd_T140 l0 x14_1).f6) = (x8_4 == (wrap64 (x14_1 + 1)))) = true := by simpa using c31))
                       (try (have c31b2 : (((rd_T140 l0 x14_1).f6) == (x8_4 == (wrap64 (x14_1 + 1)))) = true := by simpa using c31))
                       clear c31
                       have H' := Aside0.mk H
                       clear H
                       have p174 : 0 ≤ (x14_1 : Int) := of_decide_eq_true kz6_1
                       have q174 : x14_1 < (l0.length : Int) := of_decide_eq_true kz6_1
                       obtain ⟨ad174, e174, hx174_0, hx174_1, hx174_2, hx174_3, hx174_4, hx174_5, hx174_6⟩ := at_T140 HR0.out x14_1 p174 q174
                       obtain rfl : ad165 = ad174 := (by injection e174)
                       replace p174 := eq_true p174
                       replace q174 := eq_true q174
                       have p175 : 0 ≤ (x14_1 : Int) := of_decide_eq_true kz6_1
                       have q175 : x14_1 < (l0.length : Int) := of_decide_eq_true kz6_1
                       obtain ⟨ad175, e175, hx175_0, hx175_1, hx175_2, hx175_3, hx175_4, hx175_5, hx175_6⟩ := at_T140 HR0.out x14_1 p175 q175
                       obtain rfl : ad165 = ad175 := (by injection e175)
                       replace p175 := eq_true p175
                       replace q175 := eq_true q175
                       have p176 : 0 ≤ (x14_1 : Int) := of_decide_eq_true kz6_1
                       have q176 : x14_1 < (l0.length : Int) := of_decide_eq_true kz6_1
                       obtain ⟨ad176, e176, hx176_0, hx176_1, hx176_2, hx176_3, hx176_4, hx176_5, hx176_6⟩ := at_T140 HR0.out x14_1 p176 q176
                       obtain rfl : ad165 = ad176 := (by injection e176)
                       replace p176 := eq_true p176
                       replace q176 := eq_true q176
                       go_wp2
                       go_roundg k4
                       case measure => have := HK1.out; have := HJ5.out; have := HK3.out; have := HK4.out; omega
                       case rel => exact ⟨(wrap64 (x14_1 + 1)), kz6_2, H', ⟨by have := HK1.out; have := HJ5.out; have := HK3.out; have := HK4.out; omega⟩, by repeat (first | exact Drawn0.refl _ | apply Drawn0.step)⟩
                     ·rw [if_neg c30] at H
                      have c30b0 : (((rd_T140 l0 x14_1).f3) == x8_4) = false := beq_eq_false_iff_ne.mpr c30
                      have c30b1 : (((rd_T140 l0 x14_1).f3) != x8_4) = true := bne_iff_ne.mpr c30
                      obtain rfl := Option.some.inj H
                      have p174 : 0 ≤ (x14_1 : Int) := of_decide_eq_true kz6_1
                      have q174 : x14_1 < (l0.length : Int) := of_decide_eq_true kz6_1
                      obtain ⟨ad174, e174, hx174_0, hx174_1, hx174_2, hx174_3, hx174_4, hx174_5, hx174_6⟩ := at_T140 HR0.out x14_1 p174 q174
                      obtain rfl : ad165 = ad174 := (by injection e174)
                      replace p174 := eq_true p174
                      replace q174 := eq_true q174
                      have p175 : 0 ≤ (x14_1 : Int) := of_decide_eq_true kz6_1
                      have q175 : x14_1 < (l0.length : Int) := of_decide_eq_true kz6_1
                      obtain ⟨ad175, e175, hx175_0, hx175_1, hx175_2, hx175_3, hx175_4, hx175_5, hx175_6⟩ := at_T140 HR0.out x14_1 p175 q175
                      obtain rfl : ad165 = ad175 := (by injection e175)
                      replace p175 := eq_true p175
                      replace q175 := eq_true q175
                      go_wp2
                      go_ret
                      exact ⟨by first | rfl | (simp; done) | (simp [*]; done), by repeat (first | exact Drawn0.refl _ | apply Drawn0.step)⟩
                    ·rw [if_neg c29] at H
                     have c29b0 : (((rd_T140 l0 x14_1).f2) == x6_3) = false := beq_eq_false_iff_ne.mpr c29
                     have c29b1 : (((rd_T140 l0 x14_1).f2) != x6_3) = true := bne_iff_ne.mpr c29
                     obtain rfl := Option.some.inj H
                     have p174 : 0 ≤ (x14_1 : Int) := of_decide_eq_true kz6_1
                     have q174 : x14_1 < (l0.length : Int) := of_decide_eq_true kz6_1
                     obtain ⟨ad174, e174, hx174_0, hx174_1, hx174_2, hx174_3, hx174_4, hx174_5, hx174_6⟩ := at_T140 HR0.out x14_1 p174 q174
                     obtain rfl : ad165 = ad174 := (by injection e174)
                     replace p174 := eq_true p174
                     replace q174 := eq_true q174
                     go_wp2
                     go_ret
                     exact ⟨by first | rfl | (simp; done) | (simp [*]; done), by repeat (first | exact Drawn0.refl _ | apply Drawn0.step)⟩
                   ·rw [if_neg c28] at H
                    exact absurd H (by simp)
                  ·rw [if_neg c27] at H
                   exact absurd H (by simp)
           ·rw [if_neg c15] at H
            exact absurd H (by simp)
          ·rw [if_neg c14] at H
           exact absurd H (by simp)
         ·replace c13 := Bool.eq_false_iff.mpr c13
          subst c13
          have H1 : (some false) = some r := by rw [if_neg (show ¬ (false = true) by decide)] at H; exact H
          clear H
          have H := H1
          clear H1
          obtain rfl := Option.some.inj H
          go_wp2
          go_ret
          exact ⟨by first | rfl | (simp; done) | (simp [*]; done), by repeat (first | exact Drawn0.refl _ | apply Drawn0.step)⟩
      ·rw [if_neg c5] at H
       exact absurd H (by simp)
     ·rw [if_neg c4] at H
      exact absurd H (by simp)
    ·rw [if_neg c3] at H
     have c3b0 : decide (x14_1 < (l0.length : Int)) = false := decide_eq_false c3
     clear c3
     obtain rfl := Option.some.inj H
     go_wp2
     go_ret
     exact ⟨by first | rfl | (simp; done) | (simp [*]; done), by repeat (first | exact Drawn0.refl _ | apply Drawn0.step)⟩

/-! ### tumbrelref09_state: function 87 -/
def tumbrelref09_state.f (l0 : List (S140)) (a1 : Int) : Option (Bool) := if a1 ≥ 0 then (some (decide (a1 < (l0.length : Int)))) else (some false)
set_option maxHeartbeats 8000000 in
set_option maxRecDepth 100000 in
theorem tumbrelref09_state.calls (A0 : Option Addr) (c0 : Nat) (l0 : List (S140)) (a1 : Int) (r : Bool) (w : World) (hr0 : Kd.C k140 w A0 l0.length l0) (hc0 : l0.length ≤ c0) (h : tumbrelref09_state.f l0 a1 = some r) :
  Calls Try.prog 87 #[.slice A0 l0.length c0, .int .i64 a1] w fun e w' => e = .returned (.bool r) ∧ Drawn0 w w' := by
 have HR0 := Aside0.mk hr0
 have HC0 := Aside0.mk hc0
 clear hr0 hc0
 have H : (if a1 ≥ 0 then (some (decide (a1 < (l0.length : Int)))) else (some false)) = some r := h
 clear h
 by_cases c3 : a1 ≥ 0
 ·rw [if_pos c3] at H
  have c3b0 : decide (0 ≤ a1) = true := decide_eq_true c3
  clear c3
  obtain rfl := Option.some.inj H
  go_enter Try.func87, Try.ntmps87
  go_wp2
  go_ret
  exact ⟨by first | rfl | (simp; done) | (simp [*]; done), by repeat (first | exact Drawn0.refl _ | apply Drawn0.step)⟩
 ·rw [if_neg c3] at H
  have c3b0 : decide (0 ≤ a1) = false := decide_eq_false c3
  clear c3
  obtain rfl := Option.some.inj H
  go_enter Try.func87, Try.ntmps87
  go_wp2
  go_ret
  exact ⟨by first | rfl | (simp; done) | (simp [*]; done), by repeat (first | exact Drawn0.refl _ | apply Drawn0.step)⟩

end Go.Proofs.Ytjghlomkimoeoaa.PConfigAsks
