-- Written by fprint.py (wip), by way of the printer's functions; where they are turned, by texts of mine.
import Derived.Test.YtjghlomkimoeoaaPConfigMovesx0
import Derived.Test.YtjghlomkimoeoaaPConfigMovesx8
namespace Go.Proofs.Ytjghlomkimoeoaa.PConfigMoves
open Go.RowKit Go.Proofs.YtjghlomkimoeoaaW.PrintWords Go.Proofs.YtjghlomkimoeoaaW.PrintLast Go.Proofs.YtjghlomkimoeoaaW.PrintMore
attribute [local go_sem] max2_int min2_int max_two min_two max_three min_three max_four min_four   -- for this text's walks alone
set_option linter.unusedVariables false
set_option linter.unusedSimpArgs false
theorem kz9_1 {p_ : Prop} (h_ : p_ := by first | (with_reducible assumption) | assumption) : p_ := h_
theorem kz9_2 {p_ : Prop} (h_ : p_ := by first | rfl | (simp; done) | (simp [*]; done)) : p_ := h_

/-! ### tumbrelref09_Formed: function 86 -/
mutual
def tumbrelref09_Formed.l0 : Nat → List (S140) → Int → Int → Option (Bool)
 | 0, _, _, _ => none
 | k + 1, x0, x13, x14 => if x14 < x13 then (if 0 ≤ x14 then (if x14 < (x0.length : Int) then (tumbrelref09_Formed.l1 k x0 x14 (((rd_T140 x0 x14).f1) == (-1)) (wrap64 (x14 - 1)) x13 x14) else (none)) else (none)) else (some true)
def tumbrelref09_Formed.j2 : Nat → List (S140) → Int → Bool → Int → Int → Option (Bool)
 | 0, _, _, _, _, _ => none
 | k + 1, x0, x3, x4, x13, x14 => if x4 = true then (if 0 ≤ x3 then (if x3 < (x0.length : Int) then (tumbrelref09_Formed.l2 k x0 x3 0 ((rd_T140 x0 x3).f1) x13 x14) else (none)) else (none)) else (some false)
def tumbrelref09_Formed.l2 : Nat → List (S140) → Int → Int → Int → Int → Int → Option (Bool)
 | 0, _, _, _, _, _, _ => none
 | k + 1, x0, x3, x6, x7, x13, x14 => if x7 ≥ 0 then (if 0 ≤ x7 then (if x7 < (x0.length : Int) then (tumbrelref09_Formed.l2 k x0 x3 (wrap64 (x6 + 1)) ((rd_T140 x0 x7).f1) x13 x14) else (none)) else (none)) else (tumbrelref09_Formed.l3 k x0 x3 x6 (wrap64 (x3 + 1)) x13 x14)
def tumbrelref09_Formed.l3 : Nat → List (S140) → Int → Int → Int → Int → Int → Option (Bool)
 | 0, _, _, _, _, _, _ => none
 | k + 1, x0, x3, x6, x8, x13, x14 => if x8 < (x0.length : Int) then ((tumbrelref09_lies.f k x0 x8 x3).bind fun t256 => (if t256 = true then (tumbrelref09_Formed.l3 k x0 x3 x6 (wrap64 (x8 + 1)) x13 x14) else (if 0 ≤ x3 then (if x3 < (x0.length : Int) then (if ((rd_T140 x0 x3).f2) = x6 then (if ((rd_T140 x0 x3).f3) = x8 then (if (((rd_T140 x0 x3).f6) != (x8 == (wrap64 (x3 + 1)))) = true then (some false) else (tumbrelref09_Formed.l0 k x0 x13 (wrap64 (x14 + 1)))) else (some false)) else (some false)) else (none)) else (none)))) else (if 0 ≤ x3 then (if x3 < (x0.length : Int) then (if ((rd_T140 x0 x3).f2) = x6 then (if ((rd_T140 x0 x3).f3) = x8 then (if (((rd_T140 x0 x3).f6) != (x8 == (wrap64 (x3 + 1)))) = true then (some false) else (tumbrelref09_Formed.l0 k x0 x13 (wrap64 (x14 + 1)))) else (some false)) else (some false)) else (none)) else (none))
def tumbrelref09_Formed.l1 : Nat → List (S140) → Int → Bool → Int → Int → Int → Option (Bool)
 | 0, _, _, _, _, _, _ => none
 | k + 1, x0, x3, x4, x5, x13, x14 => if x5 ≥ 0 then (if x4 = true then (tumbrelref09_Formed.j2 k x0 x3 x4 x13 x14) else (if 0 ≤ x3 then (if x3 < (x0.length : Int) then (if 0 ≤ x5 then (if x5 < (x0.length : Int) then (tumbrelref09_Formed.l1 k x0 x3 (((rd_T140 x0 x3).f1) == x5) ((rd_T140 x0 x5).f1) x13 x14) else (none)) else (none)) else (none)) else (none))) else (tumbrelref09_Formed.j2 k x0 x3 x4 x13 x14)
end
def tumbrelref09_Formed.f (k : Nat) (l0 : List (S140)) : Option (Bool) := if (l0.length : Int) > 40 then (some false) else (tumbrelref09_Formed.l0 k l0 (l0.length : Int) 0)
theorem tumbrelref09_Formed.mono_l : ∀ k, (∀ y0 y1 y2, LeO (tumbrelref09_Formed.l0 k y0 y1 y2) (tumbrelref09_Formed.l0 (k + 1) y0 y1 y2)) ∧ (∀ y0 y1 y2 y3 y4, LeO (tumbrelref09_Formed.j2 k y0 y1 y2 y3 y4) (tumbrelref09_Formed.j2 (k + 1) y0 y1 y2 y3 y4)) ∧ (∀ y0 y1 y2 y3 y4 y5, LeO (tumbrelref09_Formed.l2 k y0 y1 y2 y3 y4 y5) (tumbrelref09_Formed.l2 (k + 1) y0 y1 y2 y3 y4 y5)) ∧ (∀ y0 y1 y2 y3 y4 y5, LeO (tumbrelref09_Formed.l3 k y0 y1 y2 y3 y4 y5) (tumbrelref09_Formed.l3 (k + 1) y0 y1 y2 y3 y4 y5)) ∧ (∀ y0 y1 y2 y3 y4 y5, LeO (tumbrelref09_Formed.l1 k y0 y1 y2 y3 y4 y5) (tumbrelref09_Formed.l1 (k + 1) y0 y1 y2 y3 y4 y5))
 | 0 => ⟨fun _ _ _ r h => by simp [tumbrelref09_Formed.l0] at h, fun _ _ _ _ _ r h => by simp [tumbrelref09_Formed.j2] at h, fun _ _ _ _ _ _ r h => by simp [tumbrelref09_Formed.l2] at h, fun _ _ _ _ _ _ r h => by simp [tumbrelref09_Formed.l3] at h, fun _ _ _ _ _ _ r h => by simp [tumbrelref09_Formed.l1] at h⟩
 | k + 1 => by
  obtain ⟨ih0, ih1, ih2, ih3, ih4⟩ := tumbrelref09_Formed.mono_l k
  refine ⟨?_, ?_, ?_, ?_, ?_⟩
  ·intro y0 y1 y2
   unfold tumbrelref09_Formed.l0
   repeat' first
   | (with_reducible exact ih0 _ _ _)
   | (with_reducible exact ih1 _ _ _ _ _)
   | (with_reducible exact ih2 _ _ _ _ _ _)
   | (with_reducible exact ih3 _ _ _ _ _ _)
   | (with_reducible exact ih4 _ _ _ _ _ _)
   | (with_reducible exact tumbrelref09_lies.mono _ _ _ _)
   | (with_reducible exact LeO.refl _)
   | (with_reducible exact LeO.none _)
   | (with_reducible refine LeO.ite ?_ ?_)
   | (with_reducible refine LeO.bind ?_ (fun _ => ?_))
   | exact ih0 _ _ _
   | exact ih1 _ _ _ _ _
   | exact ih2 _ _ _ _ _ _
   | exact ih3 _ _ _ _ _ _
   | exact ih4 _ _ _ _ _ _
   | exact tumbrelref09_lies.mono _ _ _ _
   | exact LeO.none _
   | refine LeO.ite ?_ ?_
   | refine LeO.bind ?_ (fun _ => ?_)
  ·intro y0 y1 y2 y3 y4
   unfold tumbrelref09_Formed.j2
   repeat' first
   | (with_reducible exact ih0 _ _ _)
   | (with_reducible exact ih1 _ _ _ _ _)
   | (with_reducible exact ih2 _ _ _ _ _ _)
   | (with_reducible exact ih3 _ _ _ _ _ _)
   | (with_reducible exact ih4 _ _ _ _ _ _)
   | (with_reducible exact tumbrelref09_lies.mono _ _ _ _)
   | (with_reducible exact LeO.refl _)
   | (with_reducible exact LeO.none _)
   | (with_reducible refine LeO.ite ?_ ?_)
   | (with_reducible refine LeO.bind ?_ (fun _ => ?_))
   | exact ih0 _ _ _
   | exact ih1 _ _ _ _ _
   | exact ih2 _ _ _ _ _ _
   | exact ih3 _ _ _ _ _ _
   | exact ih4 _ _ _ _ _ _
   | exact tumbrelref09_lies.mono _ _ _ _
   | exact LeO.none _
   | refine LeO.ite ?_ ?_
   | refine LeO.bind ?_ (fun _ => ?_)
  ·intro y0 y1 y2 y3 y4 y5
   unfold tumbrelref09_Formed.l2
   repeat' first
   | (with_reducible exact ih0 _ _ _)
   | (with_reducible exact ih1 _ _ _ _ _)
   | (with_reducible exact ih2 _ _ _ _ _ _)
   | (with_reducible exact ih3 _ _ _ _ _ _)
   | (with_reducible exact ih4 _ _ _ _ _ _)
   | (with_reducible exact tumbrelref09_lies.mono _ _ _ _)
   | (with_reducible exact LeO.refl _)
   | (with_reducible exact LeO.none _)
   | (with_reducible refine LeO.ite ?_ ?_)
   | (with_reducible refine LeO.bind ?_ (fun _ => ?_))
   | exact ih0 _ _ _
   | exact ih1 _ _ _ _ _
   | exact ih2 _ _ _ _ _ _
   | exact ih3 _ _ _ _ _ _
   | exact ih4 _ _ _ _ _ _
   | exact tumbrelref09_lies.mono _ _ _ _
   | exact LeO.none _
   | refine LeO.ite ?_ ?_
   | refine LeO.bind ?_ (fun _ => ?_)
  ·intro y0 y1 y2 y3 y4 y5
   unfold tumbrelref09_Formed.l3
   repeat' first
   | (with_reducible exact ih0 _ _ _)
   | (with_reducible exact ih1 _ _ _ _ _)
   | (with_reducible exact ih2 _ _ _ _ _ _)
   | (with_reducible exact ih3 _ _ _ _ _ _)
   | (with_reducible exact ih4 _ _ _ _ _ _)
   | (with_reducible exact tumbrelref09_lies.mono _ _ _ _)
   | (with_reducible exact LeO.refl _)
   | (with_reducible exact LeO.none _)
   | (with_reducible refine LeO.ite ?_ ?_)
   | (with_reducible refine LeO.bind ?_ (fun _ => ?_))
   | exact ih0 _ _ _
   | exact ih1 _ _ _ _ _
   | exact ih2 _ _ _ _ _ _
   | exact ih3 _ _ _ _ _ _
   | exact ih4 _ _ _ _ _ _
   | exact tumbrelref09_lies.mono _ _ _ _
   | exact LeO.none _
   | refine LeO.ite ?_ ?_
   | refine LeO.bind ?_ (fun _ => ?_)
  ·intro y0 y1 y2 y3 y4 y5
   unfold tumbrelref09_Formed.l1
   repeat' first
   | (with_reducible exact ih0 _ _ _)
   | (with_reducible exact ih1 _ _ _ _ _)
   | (with_reducible exact ih2 _ _ _ _ _ _)
   | (with_reducible exact ih3 _ _ _ _ _ _)
   | (with_reducible exact ih4 _ _ _ _ _ _)
   | (with_reducible exact tumbrelref09_lies.mono _ _ _ _)
   | (with_reducible exact LeO.refl _)
   | (with_reducible exact LeO.none _)
   | (with_reducible refine LeO.ite ?_ ?_)
   | (with_reducible refine LeO.bind ?_ (fun _ => ?_))
   | exact ih0 _ _ _
   | exact ih1 _ _ _ _ _
   | exact ih2 _ _ _ _ _ _
   | exact ih3 _ _ _ _ _ _
   | exact ih4 _ _ _ _ _ _
   | exact tumbrelref09_lies.mono _ _ _ _
   | exact LeO.none _
   | refine LeO.ite ?_ ?_
   | refine LeO.bind ?_ (fun _ => ?_)
theorem tumbrelref09_Formed.mono : ∀ a0 k, LeO (tumbrelref09_Formed.f k a0) (tumbrelref09_Formed.f (k + 1) a0) := by
 intro a0 k
 obtain ⟨ih0, ih1, ih2, ih3, ih4⟩ := tumbrelref09_Formed.mono_l k
 unfold tumbrelref09_Formed.f
 repeat' first
   | (with_reducible exact ih0 _ _ _)
   | (with_reducible exact ih1 _ _ _ _ _)
   | (with_reducible exact ih2 _ _ _ _ _ _)
   | (with_reducible exact ih3 _ _ _ _ _ _)
   | (with_reducible exact ih4 _ _ _ _ _ _)
   | (with_reducible exact tumbrelref09_lies.mono _ _ _ _)
   | (with_reducible exact LeO.refl _)
   | (with_reducible exact LeO.none _)
   | (with_reducible refine LeO.ite ?_ ?_)
   | (with_reducible refine LeO.bind ?_ (fun _ => ?_))
   | exact ih0 _ _ _
   | exact ih1 _ _ _ _ _
   | exact ih2 _ _ _ _ _ _
   | exact ih3 _ _ _ _ _ _
   | exact ih4 _ _ _ _ _ _
   | exact tumbrelref09_lies.mono _ _ _ _
   | exact LeO.none _
   | refine LeO.ite ?_ ?_
   | refine LeO.bind ?_ (fun _ => ?_)
set_option maxHeartbeats 8000000 in
set_option maxRecDepth 100000 in
theorem tumbrelref09_Formed.calls (k : Nat) (A0 : Option Addr) (c0 : Nat) (l0 : List (S140)) (r : Bool) (w : World) (hr0 : Kd.C k140 w A0 l0.length l0) (hc0 : l0.length ≤ c0) (h : tumbrelref09_Formed.f k l0 = some r) :
  Calls Try.prog 86 #[.slice A0 l0.length c0] w fun e w' => e = .returned (.bool r) ∧ Drawn0 w w' := by
 have HR0 := Aside0.mk hr0
 have HC0 := Aside0.mk hc0
 clear hr0 hc0
 have H : (if (l0.length : Int) > 40 then (some false) else (tumbrelref09_Formed.l0 k l0 (l0.length : Int) 0)) = some r := h
 clear h
 by_cases c2 : (l0.length : Int) > 40
 ·rw [if_pos c2] at H
  have c2b0 : decide (40 < (l0.length : Int)) = true := decide_eq_true c2
  have c2b1 : decide (40 < l0.length) = true := decide_eq_true (by omega)
  clear c2
  obtain rfl := Option.some.inj H
  go_enter Try.func86, Try.ntmps86
  go_wp2
  go_ret
  exact ⟨by first | rfl | (simp; done) | (simp [*]; done), by repeat (first | exact Drawn0.refl _ | apply Drawn0.step)⟩
 ·rw [if_neg c2] at H
  have c2b0 : decide (40 < (l0.length : Int)) = false := decide_eq_false c2
  have c2b1 : decide (40 < l0.length) = false := decide_eq_false (by omega)
  clear c2
  have H' := Aside0.mk H
  clear H
  go_enter Try.func86, Try.ntmps86
  go_wp2
  go_loopg [14] k (fun kq v14 w' => ∃ (x14_1 : Int), v14 = .int .i64 x14_1 ∧ Aside0 (tumbrelref09_Formed.l0 kq l0 (l0.length : Int) x14_1 = some r) ∧ Aside0 (kq ≤ k) ∧ Drawn0 w w')
  case atStart => exact ⟨(0), kz9_2, H', ⟨Nat.le_refl _⟩, by repeat (first | exact Drawn0.refl _ | apply Drawn0.step)⟩
  case round =>
   clear H'
   try clear c2
   try clear c2b0
   try clear c2b1
   try clear p2
   obtain ⟨x14_1, rfl, HA, HK1, ⟨m1, rfl⟩⟩ := hrel
   cases gk with
   | zero => exact absurd HA.out (by simp [tumbrelref09_Formed.l0])
   | succ k1 =>
    have H := HA.out
    clear HA
    simp only [tumbrelref09_Formed.l0] at H
    by_cases c3 : x14_1 < (l0.length : Int)
    ·rw [if_pos c3] at H
     have c3b0 : decide (x14_1 < (l0.length : Int)) = true := decide_eq_true c3
     clear c3
     by_cases c4 : 0 ≤ x14_1
     ·rw [if_pos c4] at H
      have c4b0 : decide (0 ≤ x14_1) = true := decide_eq_true c4
      clear c4
      by_cases c5 : x14_1 < (l0.length : Int)
      ·rw [if_pos c5] at H
       have c5b0 : decide (x14_1 < (l0.length : Int)) = true := decide_eq_true c5
       clear c5
       have HC6 := Aside0.mk H
       clear H
       have p251 : 0 ≤ (x14_1 : Int) := of_decide_eq_true kz9_1
       have q251 : x14_1 < (l0.length : Int) := of_decide_eq_true kz9_1
       obtain ⟨ad251, e251, hx251_0, hx251_1, hx251_2, hx251_3, hx251_4, hx251_5, hx251_6⟩ := at_T140 HR0.out x14_1 p251 q251
       cases e251
       replace p251 := eq_true p251
       replace q251 := eq_true q251
       go_upto_block 2 with (fail)
       go_cut [4] (fun v4 wc => ∃ (kq : Nat) (x4_5 : Bool), v4 = .bool x4_5 ∧ Aside0 (tumbrelref09_Formed.j2 kq l0 x14_1 x4_5 (l0.length : Int) x14_1 = some r) ∧ Aside0 (kq ≤ k1) ∧ Drawn0 w wc)
       case first =>
        have H := HC6.out
        clear HC6
        have H' := Aside0.mk H
        clear H
        go_wp2
        go_loopg [4, 5] k1 (fun kq v4 v5 w' => ∃ (x4_2 : Bool) (x5_2 : Int), v4 = .bool x4_2 ∧ v5 = .int .i64 x5_2 ∧ Aside0 (tumbrelref09_Formed.l1 kq l0 x14_1 x4_2 x5_2 (l0.length : Int) x14_1 = some r) ∧ Aside0 (kq ≤ k1) ∧ Drawn0 w w')
        case atStart => exact ⟨((((rd_T140 l0 x14_1).f1) == (-1))), (wrap64 (x14_1 - 1)), kz9_2, kz9_2, H', ⟨Nat.le_refl _⟩, by repeat (first | exact Drawn0.refl _ | apply Drawn0.step)⟩
        case round =>
         clear H'
         try clear c2
         try clear c2b0
         try clear c2b1
         try clear p2
         try clear q2
         try clear hx2
         try clear c3
         try clear c3b0
         try clear c4
         try clear c4b0
         try clear c5
         try clear c5b0
         try clear p6
         try clear hx251_0
         try clear hx251_1
         try clear hx251_2
         try clear hx251_3
         try clear hx251_4
         try clear hx251_5
         try clear hx251_6
         try clear p2
         try clear p251
         try clear q251
         obtain ⟨x4_2, x5_2, rfl, rfl, HA, HK2, ⟨m2, rfl⟩⟩ := hrel
         cases gk with
         | zero => exact absurd HA.out (by simp [tumbrelref09_Formed.l1])
         | succ k2 =>
          have H := HA.out
          clear HA
          simp only [tumbrelref09_Formed.l1] at H
          by_cases c7 : x5_2 ≥ 0
          ·rw [if_pos c7] at H
           have c7b0 : decide (0 ≤ x5_2) = true := decide_eq_true c7
           clear c7
           (first | rw [c7b0] | (simp only [i64_w, i32_w]; rw [c7b0]) | skip)
           by_cases c8 : x4_2 = true
           ·subst c8
            have H1 : (tumbrelref09_Formed.j2 k2 l0 x14_1 true (l0.length : Int) x14_1) = some r := by rw [if_pos rfl] at H; exact H
            clear H
            have H := H1
            clear H1
            have H' := Aside0.mk H
            clear H
            go_wp2
            go_meet
            case rel => exact ⟨_, (true), kz9_2, H', ⟨by have := HK1.out; have := HK2.out; first | omega | exact Nat.le_refl _⟩, by repeat (first | exact Drawn0.refl _ | apply Drawn0.step)⟩
           ·replace c8 := Bool.eq_false_iff.mpr c8
            subst c8
            have H1 : (if 0 ≤ x14_1 then (if x14_1 < (l0.length : Int) then (if 0 ≤ x5_2 then (if x5_2 < (l0.length : Int) then (tumbrelref09_Formed.l1 k2 l0 x14_1 (((rd_T140 l0 x14_1).f1) == x5_2) ((rd_T140 l0 x5_2).f1) (l0.length : Int) x14_1) else (none)) else (none)) else (none)) else (none)) = some r := by rw [if_neg (show ¬ (false = true) by decide)] at H; exact H
            clear H
            have H := H1
            clear H1
            by_cases c9 : 0 ≤ x14_1
            ·rw [if_pos c9] at H
             have c9b0 : decide (0 ≤ x14_1) = true := decide_eq_true c9
             clear c9
             by_cases c10 : x14_1 < (l0.length : Int)
             ·rw [if_pos c10] at H
              have c10b0 : decide (x14_1 < (l0.length : Int)) = true := decide_eq_true c10
              clear c10
              by_cases c11 : 0 ≤ x5_2
              ·rw [if_pos c11] at H
               have c11b0 : decide (0 ≤ x5_2) = true := decide_eq_true c11
               clear c11
               by_cases c12 : x5_2 < (l0.length : Int)
               ·rw [if_pos c12] at H
                have c12b0 : decide (x5_2 < (l0.length : Int)) = true := decide_eq_true c12
                clear c12
                have H' := Aside0.mk H
                clear H
                have p252 : 0 ≤ (x14_1 : Int) := of_decide_eq_true kz9_1
                have q252 : x14_1 < (l0.length : Int) := of_decide_eq_true kz9_1
                obtain ⟨ad252, e252, hx252_0, hx252_1, hx252_2, hx252_3, hx252_4, hx252_5, hx252_6⟩ := at_T140 HR0.out x14_1 p252 q252
                obtain rfl : ad251 = ad252 := (by injection e252)
                replace p252 := eq_true p252
                replace q252 := eq_true q252
                have p253 : 0 ≤ (x5_2 : Int) := of_decide_eq_true kz9_1
                have q253 : x5_2 < (l0.length : Int) := of_decide_eq_true kz9_1
                obtain ⟨ad253, e253, hx253_0, hx253_1, hx253_2, hx253_3, hx253_4, hx253_5, hx253_6⟩ := at_T140 HR0.out x5_2 p253 q253
                obtain rfl : ad251 = ad253 := (by injection e253)
                replace p253 := eq_true p253
                replace q253 := eq_true q253
                go_wp2
                go_roundg k2
                case measure => have := HK1.out; have := HK2.out; omega
                case rel => exact ⟨((((rd_T140 l0 x14_1).f1) == x5_2)), ((rd_T140 l0 x5_2).f1), kz9_2, kz9_2, H', ⟨by have := HK1.out; have := HK2.out; omega⟩, by repeat (first | exact Drawn0.refl _ | apply Drawn0.step)⟩
               ·rw [if_neg c12] at H
                exact absurd H (by simp)
              ·rw [if_neg c11] at H
               exact absurd H (by simp)
             ·rw [if_neg c10] at H
              exact absurd H (by simp)
            ·rw [if_neg c9] at H
             exact absurd H (by simp)
          ·rw [if_neg c7] at H
           have c7b0 : decide (0 ≤ x5_2) = false := decide_eq_false c7
           clear c7
           (first | rw [c7b0] | (simp only [i64_w, i32_w]; rw [c7b0]) | skip)
           have H' := Aside0.mk H
           clear H
           go_wp2
           go_meet
           case rel => exact ⟨_, (x4_2), kz9_2, H', ⟨by have := HK1.out; have := HK2.out; first | omega | exact Nat.le_refl _⟩, by repeat (first | exact Drawn0.refl _ | apply Drawn0.step)⟩
       case rest =>
        clear HC6
        try clear c1
        try clear c2
        try clear c2b0
        try clear c2b1
        try clear p2
        try clear q2
        try clear hx2
        try clear c3
        try clear c3b0
        try clear c4
        try clear c4b0
        try clear c5
        try clear c5b0
        try clear p6
        try clear c7
        try clear c7b0
        try clear c8
        try clear c9
        try clear c9b0
        try clear c10
        try clear c10b0
        try clear c11
        try clear c11b0
        try clear c12
        try clear c12b0
        try clear hx251_0
        try clear hx251_1
        try clear hx251_2
        try clear hx251_3
        try clear hx251_4
        try clear hx251_5
        try clear hx251_6
        try clear hx252_0
        try clear hx252_1
        try clear hx252_2
        try clear hx252_3
        try clear hx252_4
        try clear hx252_5
        try clear hx252_6
        try clear hx253_0
        try clear hx253_1
        try clear hx253_2
        try clear hx253_3
        try clear hx253_4
        try clear hx253_5
        try clear hx253_6
        try clear p2
        try clear p251
        try clear p252
        try clear p253
        try clear p6
        try clear q2
        try clear q251
        try clear q252
        try clear q253
        obtain ⟨kq, x4_5, rfl, HA, HJ5, ⟨mc5, rfl⟩⟩ := hcut
        cases kq with
        | zero => exact absurd HA.out (by simp [tumbrelref09_Formed.j2])
        | succ kj5 =>
         have H := HA.out
         clear HA
         simp only [tumbrelref09_Formed.j2] at H
         by_cases c13 : x4_5 = true
         ·subst c13
          have H1 : (if 0 ≤ x14_1 then (if x14_1 < (l0.length : Int) then (tumbrelref09_Formed.l2 kj5 l0 x14_1 0 ((rd_T140 l0 x14_1).f1) (l0.length : Int) x14_1) else (none)) else (none)) = some r := by rw [if_pos rfl] at H; exact H
          clear H
          have H := H1
          clear H1
          by_cases c14 : 0 ≤ x14_1
          ·rw [if_pos c14] at H
           have c14b0 : decide (0 ≤ x14_1) = true := decide_eq_true c14
           clear c14
           by_cases c15 : x14_1 < (l0.length : Int)
           ·rw [if_pos c15] at H
            have c15b0 : decide (x14_1 < (l0.length : Int)) = true := decide_eq_true c15
            clear c15
            have H' := Aside0.mk H
            clear H
            have p254 : 0 ≤ (x14_1 : Int) := of_decide_eq_true kz9_1
            have q254 : x14_1 < (l0.length : Int) := of_decide_eq_true kz9_1
            obtain ⟨ad254, e254, hx254_0, hx254_1, hx254_2, hx254_3, hx254_4, hx254_5, hx254_6⟩ := at_T140 HR0.out x14_1 p254 q254
            obtain rfl : ad251 = ad254 := (by injection e254)
            replace p254 := eq_true p254
            replace q254 := eq_true q254
            go_wp2
            go_loopg [6, 7] kj5 (fun kq v6 v7 w' => ∃ (x6_3 : Int) (x7_3 : Int), v6 = .int .i64 x6_3 ∧ v7 = .int .i64 x7_3 ∧ Aside0 (tumbrelref09_Formed.l2 kq l0 x14_1 x6_3 x7_3 (l0.length : Int) x14_1 = some r) ∧ Aside0 (kq ≤ kj5) ∧ Drawn0 w w')
            case atStart => exact ⟨(0), ((rd_T140 l0 x14_1).f1), kz9_2, kz9_2, H', ⟨Nat.le_refl _⟩, by repeat (first | exact Drawn0.refl _ | apply Drawn0.step)⟩
            case round =>
             clear H'
             try clear c1
             try clear c2
             try clear c2b0
             try clear c2b1
             try clear p2
             try clear q2
             try clear hx2
             try clear c3
             try clear c3b0
             try clear c4
             try clear c4b0
             try clear c5
             try clear c5b0
             try clear p6
             try clear c7
             try clear c7b0
             try clear c8
             try clear c9
             try clear c9b0
             try clear c10
             try clear c10b0
             try clear c11
             try clear c11b0
             try clear c12
             try clear c12b0
             try clear c13
             try clear c14
             try clear c14b0
             try clear c15
             try clear c15b0
             try clear hx251_0
             try clear hx251_1
             try clear hx251_2
             try clear hx251_3
             try clear hx251_4
             try clear hx251_5
             try clear hx251_6
             try clear hx252_0
             try clear hx252_1
             try clear hx252_2
             try clear hx252_3
             try clear hx252_4
             try clear hx252_5
             try clear hx252_6
             try clear hx253_0
             try clear hx253_1
             try clear hx253_2
             try clear hx253_3
             try clear hx253_4
             try clear hx253_5
             try clear hx253_6
             try clear hx254_0
             try clear hx254_1
             try clear hx254_2
             try clear hx254_3
             try clear hx254_4
             try clear hx254_5
             try clear hx254_6
             try clear p2
             try clear p251
             try clear p252
             try clear p253
             try clear p254
             try clear p6
             try clear q2
             try clear q251
             try clear q252
             try clear q253
             try clear q254
             obtain ⟨x6_3, x7_3, rfl, rfl, HA, HK3, ⟨m3, rfl⟩⟩ := hrel
             cases gk with
             | zero => exact absurd HA.out (by simp [tumbrelref09_Formed.l2])
             | succ k3 =>
              have H := HA.out
              clear HA
              simp only [tumbrelref09_Formed.l2] at H
              by_cases c16 : x7_3 ≥ 0
              ·rw [if_pos c16] at H
               have c16b0 : decide (0 ≤ x7_3) = true := decide_eq_true c16
               clear c16
               by_cases c17 : 0 ≤ x7_3
               ·rw [if_pos c17] at H
                have c17b0 : decide (0 ≤ x7_3) = true := decide_eq_true c17
                clear c17
                by_cases c18 : x7_3 < (l0.length : Int)
                ·rw [if_pos c18] at H
                 have c18b0 : decide (x7_3 < (l0.length : Int)) = true := decide_eq_true c18
                 clear c18
                 have H' := Aside0.mk H
                 clear H
                 have p255 : 0 ≤ (x7_3 : Int) := of_decide_eq_true kz9_1
                 have q255 : x7_3 < (l0.length : Int) := of_decide_eq_true kz9_1
                 obtain ⟨ad255, e255, hx255_0, hx255_1, hx255_2, hx255_3, hx255_4, hx255_5, hx255_6⟩ := at_T140 HR0.out x7_3 p255 q255
                 obtain rfl : ad251 = ad255 := (by injection e255)
                 replace p255 := eq_true p255
                 replace q255 := eq_true q255
                 go_wp2
                 go_roundg k3
                 case measure => have := HK1.out; have := HJ5.out; have := HK3.out; omega
                 case rel => exact ⟨(wrap64 (x6_3 + 1)), ((rd_T140 l0 x7_3).f1), kz9_2, kz9_2, H', ⟨by have := HK1.out; have := HJ5.out; have := HK3.out; omega⟩, by repeat (first | exact Drawn0.refl _ | apply Drawn0.step)⟩
                ·rw [if_neg c18] at H
                 exact absurd H (by simp)
               ·rw [if_neg c17] at H
                exact absurd H (by simp)
              ·rw [if_neg c16] at H
               have c16b0 : decide (0 ≤ x7_3) = false := decide_eq_false c16
               clear c16
               have H' := Aside0.mk H
               clear H
               go_wp2
               go_loopg [8] k3 (fun kq v8 w' => ∃ (x8_4 : Int), v8 = .int .i64 x8_4 ∧ Aside0 (tumbrelref09_Formed.l3 kq l0 x14_1 x6_3 x8_4 (l0.length : Int) x14_1 = some r) ∧ Aside0 (kq ≤ k3) ∧ Drawn0 w w')
               case atStart => exact ⟨(wrap64 (x14_1 + 1)), kz9_2, H', ⟨Nat.le_refl _⟩, by repeat (first | exact Drawn0.refl _ | apply Drawn0.step)⟩
               case round =>
                clear H'
                try clear c1
                try clear c2
                try clear c2b0
                try clear c2b1
                try clear p2
                try clear q2
                try clear hx2
                try clear c3
                try clear c3b0
                try clear c4
                try clear c4b0
                try clear c5
                try clear c5b0
                try clear p6
                try clear c7
                try clear c7b0
                try clear c8
                try clear c9
                try clear c9b0
                try clear c10
                try clear c10b0
                try clear c11
                try clear c11b0
                try clear c12
                try clear c12b0
                try clear c13
                try clear c14
                try clear c14b0
                try clear c15
                try clear c15b0
                try clear c16
                try clear c16b0
                try clear c17
                try clear c17b0
                try clear c18
                try clear c18b0
                try clear hx251_0
                try clear hx251_1
                try clear hx251_2
                try clear hx251_3
                try clear hx251_4
                try clear hx251_5
                try clear hx251_6
                try clear hx252_0
                try clear hx252_1
                try clear hx252_2
                try clear hx252_3
                try clear hx252_4
                try clear hx252_5
                try clear hx252_6
                try clear hx253_0
                try clear hx253_1
                try clear hx253_2
                try clear hx253_3
                try clear hx253_4
                try clear hx253_5
                try clear hx253_6
                try clear hx254_0
                try clear hx254_1
                try clear hx254_2
                try clear hx254_3
                try clear hx254_4
                try clear hx254_5
                try clear hx254_6
                try clear hx255_0
                try clear hx255_1
                try clear hx255_2
                try clear hx255_3
                try clear hx255_4
                try clear hx255_5
                try clear hx255_6
                try clear p2
                try clear p251
                try clear p252
                try clear p253
                try clear p254
                try clear p255
                try clear p6
                try clear q2
                try clear q251
                try clear q252
                try clear q253
                try clear q254
                try clear q255
                obtain ⟨x8_4, rfl, HA, HK4, ⟨m4, rfl⟩⟩ := hrel
                cases gk with
                | zero => exact absurd HA.out (by simp [tumbrelref09_Formed.l3])
                | succ k4 =>
                 have H := HA.out
                 clear HA
                 simp only [tumbrelref09_Formed.l3] at H
                 by_cases c19 : x8_4 < (l0.length : Int)
                 ·rw [if_pos c19] at H
                  have c19b0 : decide (x8_4 < (l0.length : Int)) = true := decide_eq_true c19
                  clear c19
                  replace H := Option.bind_eq_some_iff.mp H
                  obtain ⟨t256, A200, H⟩ := H
                  replace H : (if t256 = true then (tumbrelref09_Formed.l3 k4 l0 x14_1 x6_3 (wrap64 (x8_4 + 1)) (l0.length : Int) x14_1) else (if 0 ≤ x14_1 then (if x14_1 < (l0.length : Int) then (if ((rd_T140 l0 x14_1).f2) = x6_3 then (if ((rd_T140 l0 x14_1).f3) = x8_4 then (if (((rd_T140 l0 x14_1).f6) != (x8_4 == (wrap64 (x14_1 + 1)))) = true then (some false) else (tumbrelref09_Formed.l0 k4 l0 (l0.length : Int) (wrap64 (x14_1 + 1)))) else (some false)) else (some false)) else (none)) else (none))) = some r := H
                  have A20 := Aside0.mk A200
                  clear A200
                  by_cases c21 : t256 = true
                  ·subst c21
                   have H1 : (tumbrelref09_Formed.l3 k4 l0 x14_1 x6_3 (wrap64 (x8_4 + 1)) (l0.length : Int) x14_1) = some r := by rw [if_pos rfl] at H; exact H
                   clear H
                   have H := H1
                   clear H1
                   have H' := Aside0.mk H
                   clear H
                   go_wp2_with (first | (go_at_call 113; (with_reducible refine (tumbrelref09_lies.calls k4 _ _ l0 x8_4 x14_1 true _ ?side1 ?side2 A20.out).mono ?_); (case side1 => repeat (first | exact HR0.out | (with_reducible refine Kd.C_alloc ?_ _) | (with_reducible refine Kd.C_drewN ?_ _) | (with_reducible refine Kd.C_drew ?_))); (case side2 => exact HC0.out); rintro e w' ⟨rfl, ⟨nd, rfl⟩⟩))
                   go_roundg k4
                   case measure => have := HK1.out; have := HJ5.out; have := HK3.out; have := HK4.out; omega
                   case rel => exact ⟨(wrap64 (x8_4 + 1)), kz9_2, H', ⟨by have := HK1.out; have := HJ5.out; have := HK3.out; have := HK4.out; omega⟩, by repeat (first | exact Drawn0.refl _ | apply Drawn0.step)⟩
                  ·replace c21 := Bool.eq_false_iff.mpr c21
                   subst c21
                   have H1 : (if 0 ≤ x14_1 then (if x14_1 < (l0.length : Int) then (if ((rd_T140 l0 x14_1).f2) = x6_3 then (if ((rd_T140 l0 x14_1).f3) = x8_4 then (if (((rd_T140 l0 x14_1).f6) != (x8_4 == (wrap64 (x14_1 + 1)))) = true then (some false) else (tumbrelref09_Formed.l0 k4 l0 (l0.length : Int) (wrap64 (x14_1 + 1)))) else (some false)) else (some false)) else (none)) else (none)) = some r := by rw [if_neg (show ¬ (false = true) by decide)] at H; exact H
                   clear H
                   have H := H1
                   clear H1
                   by_cases c22 : 0 ≤ x14_1
                   ·rw [if_pos c22] at H
                    have c22b0 : decide (0 ≤ x14_1) = true := decide_eq_true c22
                    clear c22
                    by_cases c23 : x14_1 < (l0.length : Int)
                    ·rw [if_pos c23] at H
                     have c23b0 : decide (x14_1 < (l0.length : Int)) = true := decide_eq_true c23
                     clear c23
                     by_cases c24 : ((rd_T140 l0 x14_1).f2) = x6_3
                     ·rw [if_pos c24] at H
                      have c24b0 : (((rd_T140 l0 x14_1).f2) == x6_3) = true := beq_iff_eq.mpr c24
                      have c24b1 : (((rd_T140 l0 x14_1).f2) != x6_3) = false := bne_eq_false_iff_eq.mpr c24
                      clear c24
                      by_cases c25 : ((rd_T140 l0 x14_1).f3) = x8_4
                      ·rw [if_pos c25] at H
                       have c25b0 : (((rd_T140 l0 x14_1).f3) == x8_4) = true := beq_iff_eq.mpr c25
                       have c25b1 : (((rd_T140 l0 x14_1).f3) != x8_4) = false := bne_eq_false_iff_eq.mpr c25
                       clear c25
                       by_cases c26 : (((rd_T140 l0 x14_1).f6) != (x8_4 == (wrap64 (x14_1 + 1)))) = true
                       ·rw [if_pos c26] at H
                        have c26b0 : (((rd_T140 l0 x14_1).f6) != (x8_4 == (wrap64 (x14_1 + 1)))) = true := c26
                        (try (have c26b1 : decide (((rd_T140 l0 x14_1).f6) = (x8_4 == (wrap64 (x14_1 + 1)))) = false := by simpa using c26))
                        (try (have c26b2 : (((rd_T140 l0 x14_1).f6) == (x8_4 == (wrap64 (x14_1 + 1)))) = false := by simpa using c26))
                        (try (have c26b3 : ¬ (((rd_T140 l0 x14_1).f6) = (x8_4 == (wrap64 (x14_1 + 1)))) := by simpa using c26))
                        clear c26
                        obtain rfl := Option.some.inj H
                        go_wp2_with (first | (go_at_call 113; (with_reducible refine (tumbrelref09_lies.calls k4 _ _ l0 x8_4 x14_1 false _ ?side1 ?side2 A20.out).mono ?_); (case side1 => repeat (first | exact HR0.out | (with_reducible refine Kd.C_alloc ?_ _) | (with_reducible refine Kd.C_drewN ?_ _) | (with_reducible refine Kd.C_drew ?_))); (case side2 => exact HC0.out); rintro e w' ⟨rfl, ⟨nd, rfl⟩⟩; have p257 : 0 ≤ (x14_1 : Int) := of_decide_eq_true kz9_1; have q257 : x14_1 < (l0.length : Int) := of_decide_eq_true kz9_1; obtain ⟨ad257, e257, hx257_0, hx257_1, hx257_2, hx257_3, hx257_4, hx257_5, hx257_6⟩ := at_T140 HR0.out x14_1 p257 q257; obtain rfl : ad251 = ad257 := (by injection e257); replace p257 := eq_true p257; replace q257 := eq_true q257; have p258 : 0 ≤ (x14_1 : Int) := of_decide_eq_true kz9_1; have q258 : x14_1 < (l0.length : Int) := of_decide_eq_true kz9_1; obtain ⟨ad258, e258, hx258_0, hx258_1, hx258_2, hx258_3, hx258_4, hx258_5, hx258_6⟩ := at_T140 HR0.out x14_1 p258 q258; obtain rfl : ad251 = ad258 := (by injection e258); replace p258 := eq_true p258; replace q258 := eq_true q258; have p259 : 0 ≤ (x14_1 : Int) := of_decide_eq_true kz9_1; have q259 : x14_1 < (l0.length : Int) := of_decide_eq_true kz9_1; obtain ⟨ad259, e259, hx259_0, hx259_1, hx259_2, hx259_3, hx259_4, hx259_5, hx259_6⟩ := at_T140 HR0.out x14_1 p259 q259; obtain rfl : ad251 = ad259 := (by injection e259); replace p259 := eq_true p259; replace q259 := eq_true q259))
                        go_ret
                        exact ⟨by first | rfl | (simp; done) | (simp [*]; done), by repeat (first | exact Drawn0.refl _ | apply Drawn0.step)⟩
                       ·rw [if_neg c26] at H
                        have c26b0 : (((rd_T140 l0 x14_1).f6) != (x8_4 == (wrap64 (x14_1 + 1)))) = false := by simpa using c26
                        (try (have c26b1 : decide (((rd_T140 l0 x14_1).f6) = (x8_4 == (wrap64 (x14_1 + 1)))) = true := by simpa using c26))
                        (try (have c26b2 : (((rd_T140 l0 x14_1).f6) == (x8_4 == (wrap64 (x14_1 + 1)))) = true := by simpa using c26))
                        clear c26
                        have H' := Aside0.mk H
                        clear H
                        go_wp2_with (first | (go_at_call 113; (with_reducible refine (tumbrelref09_lies.calls k4 _ _ l0 x8_4 x14_1 false _ ?side1 ?side2 A20.out).mono ?_); (case side1 => repeat (first | exact HR0.out | (with_reducible refine Kd.C_alloc ?_ _) | (with_reducible refine Kd.C_drewN ?_ _) | (with_reducible refine Kd.C_drew ?_))); (case side2 => exact HC0.out); rintro e w' ⟨rfl, ⟨nd, rfl⟩⟩; have p257 : 0 ≤ (x14_1 : Int) := of_decide_eq_true kz9_1; have q257 : x14_1 < (l0.length : Int) := of_decide_eq_true kz9_1; obtain ⟨ad257, e257, hx257_0, hx257_1, hx257_2, hx257_3, hx257_4, hx257_5, hx257_6⟩ := at_T140 HR0.out x14_1 p257 q257; obtain rfl : ad251 = ad257 := (by injection e257); replace p257 := eq_true p257; replace q257 := eq_true q257; have p258 : 0 ≤ (x14_1 : Int) := of_decide_eq_true kz9_1; have q258 : x14_1 < (l0.length : Int) := of_decide_eq_true kz9_1; obtain ⟨ad258, e258, hx258_0, hx258_1, hx258_2, hx258_3, hx258_4, hx258_5, hx258_6⟩ := at_T140 HR0.out x14_1 p258 q258; obtain rfl : ad251 = ad258 := (by injection e258); replace p258 := eq_true p258; replace q258 := eq_true q258; have p259 : 0 ≤ (x14_1 : Int) := of_decide_eq_true kz9_1; have q259 : x14_1 < (l0.length : Int) := of_decide_eq_true kz9_1; obtain ⟨ad259, e259, hx259_0, hx259_1, hx259_2, hx259_3, hx259_4, hx259_5, hx259_6⟩ := at_T140 HR0.out x14_1 p259 q259; obtain rfl : ad251 = ad259 := (by injection e259); replace p259 := eq_true p259; replace q259 := eq_true q259))
                        go_roundg k4
                        case measure => have := HK1.out; have := HJ5.out; have := HK3.out; have := HK4.out; omega
                        case rel => exact ⟨(wrap64 (x14_1 + 1)), kz9_2, H', ⟨by have := HK1.out; have := HJ5.out; have := HK3.out; have := HK4.out; omega⟩, by repeat (first | exact Drawn0.refl _ | apply Drawn0.step)⟩
                      ·rw [if_neg c25] at H
                       have c25b0 : (((rd_T140 l0 x14_1).f3) == x8_4) = false := beq_eq_false_iff_ne.mpr c25
                       have c25b1 : (((rd_T140 l0 x14_1).f3) != x8_4) = true := bne_iff_ne.mpr c25
                       obtain rfl := Option.some.inj H
                       go_wp2_with (first | (go_at_call 113; (with_reducible refine (tumbrelref09_lies.calls k4 _ _ l0 x8_4 x14_1 false _ ?side1 ?side2 A20.out).mono ?_); (case side1 => repeat (first | exact HR0.out | (with_reducible refine Kd.C_alloc ?_ _) | (with_reducible refine Kd.C_drewN ?_ _) | (with_reducible refine Kd.C_drew ?_))); (case side2 => exact HC0.out); rintro e w' ⟨rfl, ⟨nd, rfl⟩⟩; have p257 : 0 ≤ (x14_1 : Int) := of_decide_eq_true kz9_1; have q257 : x14_1 < (l0.length : Int) := of_decide_eq_true kz9_1; obtain ⟨ad257, e257, hx257_0, hx257_1, hx257_2, hx257_3, hx257_4, hx257_5, hx257_6⟩ := at_T140 HR0.out x14_1 p257 q257; obtain rfl : ad251 = ad257 := (by injection e257); replace p257 := eq_true p257; replace q257 := eq_true q257; have p258 : 0 ≤ (x14_1 : Int) := of_decide_eq_true kz9_1; have q258 : x14_1 < (l0.length : Int) := of_decide_eq_true kz9_1; obtain ⟨ad258, e258, hx258_0, hx258_1, hx258_2, hx258_3, hx258_4, hx258_5, hx258_6⟩ := at_T140 HR0.out x14_1 p258 q258; obtain rfl : ad251 = ad258 := (by injection e258); replace p258 := eq_true p258; replace q258 := eq_true q258))
                       go_ret
                       exact ⟨by first | rfl | (simp; done) | (simp [*]; done), by repeat (first | exact Drawn0.refl _ | apply Drawn0.step)⟩
                     ·rw [if_neg c24] at H
                      have c24b0 : (((rd_T140 l0 x14_1).f2) == x6_3) = false := beq_eq_false_iff_ne.mpr c24
                      have c24b1 : (((rd_T140 l0 x14_1).f2) != x6_3) = true := bne_iff_ne.mpr c24
                      obtain rfl := Option.some.inj H
                      go_wp2_with (first | (go_at_call 113; (with_reducible refine (tumbrelref09_lies.calls k4 _ _ l0 x8_4 x14_1 false _ ?side1 ?side2 A20.out).mono ?_); (case side1 => repeat (first | exact HR0.out | (with_reducible refine Kd.C_alloc ?_ _) | (with_reducible refine Kd.C_drewN ?_ _) | (with_reducible refine Kd.C_drew ?_))); (case side2 => exact HC0.out); rintro e w' ⟨rfl, ⟨nd, rfl⟩⟩; have p257 : 0 ≤ (x14_1 : Int) := of_decide_eq_true kz9_1; have q257 : x14_1 < (l0.length : Int) := of_decide_eq_true kz9_1; obtain ⟨ad257, e257, hx257_0, hx257_1, hx257_2, hx257_3, hx257_4, hx257_5, hx257_6⟩ := at_T140 HR0.out x14_1 p257 q257; obtain rfl : ad251 = ad257 := (by injection e257); replace p257 := eq_true p257; replace q257 := eq_true q257))
                      go_ret
                      exact ⟨by first | rfl | (simp; done) | (simp [*]; done), by repeat (first | exact Drawn0.refl _ | apply Drawn0.step)⟩
                    ·rw [if_neg c23] at H
                     exact absurd H (by simp)
                   ·rw [if_neg c22] at H
                    exact absurd H (by simp)
                 ·rw [if_neg c19] at H
                  have c19b0 : decide (x8_4 < (l0.length : Int)) = false := decide_eq_false c19
                  clear c19
                  by_cases c27 : 0 ≤ x14_1
                  ·rw [if_pos c27] at H
                   have c27b0 : decide (0 ≤ x14_1) = true := decide_eq_true c27
                   clear c27
                   by_cases c28 : x14_1 < (l0.length : Int)
                   ·rw [if_pos c28] at H
                    have c28b0 : decide (x14_1 < (l0.length : Int)) = true := decide_eq_true c28
                    clear c28
                    by_cases c29 : ((rd_T140 l0 x14_1).f2) = x6_3
                    ·rw [if_pos c29] at H
                     have c29b0 : (((rd_T140 l0 x14_1).f2) == x6_3) = true := beq_iff_eq.mpr c29
                     have c29b1 : (((rd_T140 l0 x14_1).f2) != x6_3) = false := bne_eq_false_iff_eq.mpr c29
                     clear c29
                     by_cases c30 : ((rd_T140 l0 x14_1).f3) = x8_4
                     ·rw [if_pos c30] at H
                      have c30b0 : (((rd_T140 l0 x14_1).f3) == x8_4) = true := beq_iff_eq.mpr c30
                      have c30b1 : (((rd_T140 l0 x14_1).f3) != x8_4) = false := bne_eq_false_iff_eq.mpr c30
                      clear c30
                      by_cases c31 : (((rd_T140 l0 x14_1).f6) != (x8_4 == (wrap64 (x14_1 + 1)))) = true
                      ·rw [if_pos c31] at H
                       have c31b0 : (((rd_T140 l0 x14_1).f6) != (x8_4 == (wrap64 (x14_1 + 1)))) = true := c31
                       (try (have c31b1 : decide (((rd_T140 l0 x14_1).f6) = (x8_4 == (wrap64 (x14_1 + 1)))) = false := by simpa using c31))
                       (try (have c31b2 : (((rd_T140 l0 x14_1).f6) == (x8_4 == (wrap64 (x14_1 + 1)))) = false := by simpa using c31))
                       (try (have c31b3 : ¬ (((rd_T140 l0 x14_1).f6) = (x8_4 == (wrap64 (x14_1 + 1)))) := by simpa using c31))
                       clear c31
                       obtain rfl := Option.some.inj H
                       have p260 : 0 ≤ (x14_1 : Int) := of_decide_eq_true kz9_1
                       have q260 : x14_1 < (l0.length : Int) := of_decide_eq_true kz9_1
                       obtain ⟨ad260, e260, hx260_0, hx260_1, hx260_2, hx260_3, hx260_4, hx260_5, hx260_6⟩ := at_T140 HR0.out x14_1 p260 q260
                       obtain rfl : ad251 = ad260 := (by injection e260)
                       replace p260 := eq_true p260
                       replace q260 := eq_true q260
                       have p261 : 0 ≤ (x14_1 : Int) := of_decide_eq_true kz9_1
                       have q261 : x14_1 < (l0.length : Int) := of_decide_eq_true kz9_1
                       obtain ⟨ad261, e261, hx261_0, hx261_1, hx261_2, hx261_3, hx261_4, hx261_5, hx261_6⟩ := at_T140 HR0.out x14_1 p261 q261
                       obtain rfl : ad251 = ad261 := (by injection e261)
                       replace p261 := eq_true p261
                       replace q261 := eq_true q261
                       have p262 : 0 ≤ (x14_1 : Int) := of_decide_eq_true kz9_1
                       have q262 : x14_1 < (l0.length : Int) := of_decide_eq_true kz9_1
                       obtain ⟨ad262, e262, hx262_0, hx262_1, hx262_2, hx262_3, hx262_4, hx262_5, hx262_6⟩ := at_T140 HR0.out x14_1 p262 q262
                       obtain rfl : ad251 = ad262 := (by injection e262)
                       replace p262 := eq_true p262
                       replace q262 := eq_true q262
                       go_wp2
                       go_ret
                       exact ⟨by first | rfl | (simp; done) | (simp [*]; done), by repeat (first | exact Drawn0.refl _ | apply Drawn0.step)⟩
                      ·rw [if_neg c31] at H
                       have c31b0 : (((rd_T140 l0 x14_1).f6) != (x8_4 == (wrap64 (x14_1 + 1)))) = false := by simpa using c31
                       (try (have c31b1 : decide (((rd_T140 l0 x14_1).f6) = (x8_4 == (wrap64 (x14_1 + 1)))) = true := by simpa using c31))
                       (try (have c31b2 : (((rd_T140 l0 x14_1).f6) == (x8_4 == (wrap64 (x14_1 + 1)))) = true := by simpa using c31))
                       clear c31
                       have H' := Aside0.mk H
                       clear H
                       have p260 : 0 ≤ (x14_1 : Int) := of_decide_eq_true kz9_1
                       have q260 : x14_1 < (l0.length : Int) := of_decide_eq_true kz9_1
                       obtain ⟨ad260, e260, hx260_0, hx260_1, hx260_2, hx260_3, hx260_4, hx260_5, hx260_6⟩ := at_T140 HR0.out x14_1 p260 q260
                       obtain rfl : ad251 = ad260 := (by injection e260)
                       replace p260 := eq_true p260
                       replace q260 := eq_true q260
                       have p261 : 0 ≤ (x14_1 : Int) := of_decide_eq_true kz9_1
                       have q261 : x14_1 < (l0.length : Int) := of_decide_eq_true kz9_1
                       obtain ⟨ad261, e261, hx261_0, hx261_1, hx261_2, hx261_3, hx261_4, hx261_5, hx261_6⟩ := at_T140 HR0.out x14_1 p261 q261
                       obtain rfl : ad251 = ad261 := (by injection e261)
                       replace p261 := eq_true p261
                       replace q261 := eq_true q261
                       have p262 : 0 ≤ (x14_1 : Int) := of_decide_eq_true kz9_1
                       have q262 : x14_1 < (l0.length : Int) := of_decide_eq_true kz9_1
                       obtain ⟨ad262, e262, hx262_0, hx262_1, hx262_2, hx262_3, hx262_4, hx262_5, hx262_6⟩ := at_T140 HR0.out x14_1 p262 q262
                       obtain rfl : ad251 = ad262 := (by injection e262)
                       replace p262 := eq_true p262
                       replace q262 := eq_true q262
                       go_wp2
                       go_roundg k4
                       case measure => have := HK1.out; have := HJ5.out; have := HK3.out; have := HK4.out; omega
                       case rel => exact ⟨(wrap64 (x14_1 + 1)), kz9_2, H', ⟨by have := HK1.out; have := HJ5.out; have := HK3.out; have := HK4.out; omega⟩, by repeat (first | exact Drawn0.refl _ | apply Drawn0.step)⟩
                     ·rw [if_neg c30] at H
                      have c30b0 : (((rd_T140 l0 x14_1).f3) == x8_4) = false := beq_eq_false_iff_ne.mpr c30
                      have c30b1 : (((rd_T140 l0 x14_1).f3) != x8_4) = true := bne_iff_ne.mpr c30
                      obtain rfl := Option.some.inj H
                      have p260 : 0 ≤ (x14_1 : Int) := of_decide_eq_true kz9_1
                      have q260 : x14_1 < (l0.length : Int) := of_decide_eq_true kz9_1
                      obtain ⟨ad260, e260, hx260_0, hx260_1, hx260_2, hx260_3, hx260_4, hx260_5, hx260_6⟩ := at_T140 HR0.out x14_1 p260 q260
                      obtain rfl : ad251 = ad260 := (by injection e260)
                      replace p260 := eq_true p260
                      replace q260 := eq_true q260
                      have p261 : 0 ≤ (x14_1 : Int) := of_decide_eq_true kz9_1
                      have q261 : x14_1 < (l0.length : Int) := of_decide_eq_true kz9_1
                      obtain ⟨ad261, e261, hx261_0, hx261_1, hx261_2, hx261_3, hx261_4, hx261_5, hx261_6⟩ := at_T140 HR0.out x14_1 p261 q261
                      obtain rfl : ad251 = ad261 := (by injection e261)
                      replace p261 := eq_true p261
                      replace q261 := eq_true q261
                      go_wp2
                      go_ret
                      exact ⟨by first | rfl | (simp; done) | (simp [*]; done), by repeat (first | exact Drawn0.refl _ | apply Drawn0.step)⟩
                    ·rw [if_neg c29] at H
                     have c29b0 : (((rd_T140 l0 x14_1).f2) == x6_3) = false := beq_eq_false_iff_ne.mpr c29
                     have c29b1 : (((rd_T140 l0 x14_1).f2) != x6_3) = true := bne_iff_ne.mpr c29
                     obtain rfl := Option.some.inj H
                     have p260 : 0 ≤ (x14_1 : Int) := of_decide_eq_true kz9_1
                     have q260 : x14_1 < (l0.length : Int) := of_decide_eq_true kz9_1
                     obtain ⟨ad260, e260, hx260_0, hx260_1, hx260_2, hx260_3, hx260_4, hx260_5, hx260_6⟩ := at_T140 HR0.out x14_1 p260 q260
                     obtain rfl : ad251 = ad260 := (by injection e260)
                     replace p260 := eq_true p260
                     replace q260 := eq_true q260
                     go_wp2
                     go_ret
                     exact ⟨by first | rfl | (simp; done) | (simp [*]; done), by repeat (first | exact Drawn0.refl _ | apply Drawn0.step)⟩
                   ·rw [if_neg c28] at H
                    exact absurd H (by simp)
                  ·rw [if_neg c27] at H
                   exact absurd H (by simp)
           ·rw [if_neg c15] at H
            exact absurd H (by simp)
          ·rw [if_neg c14] at H
           exact absurd H (by simp)
         ·replace c13 := Bool.eq_false_iff.mpr c13
          subst c13
          have H1 : (some false) = some r := by rw [if_neg (show ¬ (false = true) by decide)] at H; exact H
          clear H
          have H := H1
          clear H1
          obtain rfl := Option.some.inj H
          go_wp2
          go_ret
          exact ⟨by first | rfl | (simp; done) | (simp [*]; done), by repeat (first | exact Drawn0.refl _ | apply Drawn0.step)⟩
      ·rw [if_neg c5] at H
       exact absurd H (by simp)
     ·rw [if_neg c4] at H
      exact absurd H (by simp)
    ·rw [if_neg c3] at H
     have c3b0 : decide (x14_1 < (l0.length : Int)) = false := decide_eq_false c3
     clear c3
     obtain rfl := Option.some.inj H
     go_wp2
     go_ret
     exact ⟨by first | rfl | (simp; done) | (simp [*]; done), by repeat (first | exact Drawn0.refl _ | apply Drawn0.step)⟩

/-! ### tumbrelref09_state: function 87 -/
def tumbrelref09_state.f (l0 : List (S140)) (a1 : Int) : Option (Bool) := if a1 ≥ 0 then (some (decide (a1 < (l0.length : Int)))) else (some false)
set_option maxHeartbeats 8000000 in
set_option maxRecDepth 100000 in
theorem tumbrelref09_state.calls (A0 : Option Addr) (c0 : Nat) (l0 : List (S140)) (a1 : Int) (r : Bool) (w : World) (hr0 : Kd.C k140 w A0 l0.length l0) (hc0 : l0.length ≤ c0) (h : tumbrelref09_state.f l0 a1 = some r) :
  Calls Try.prog 87 #[.slice A0 l0.length c0, .int .i64 a1] w fun e w' => e = .returned (.bool r) ∧ Drawn0 w w' := by
 have HR0 := Aside0.mk hr0
 have HC0 := Aside0.mk hc0
 clear hr0 hc0
 have H : (if a1 ≥ 0 then (some (decide (a1 < (l0.length : Int)))) else (some false)) = some r := h
 clear h
 by_cases c3 : a1 ≥ 0
 ·rw [if_pos c3] at H
  have c3b0 : decide (0 ≤ a1) = true := decide_eq_true c3
  clear c3
  obtain rfl := Option.some.inj H
  go_enter Try.func87, Try.ntmps87
  go_wp2
  go_ret
  exact ⟨by first | rfl | (simp; done) | (simp [*]; done), by repeat (first | exact Drawn0.refl _ | apply Drawn0.step)⟩
 ·rw [if_neg c3] at H
  have c3b0 : decide (0 ≤ a1) = false := decide_eq_false c3
  clear c3
  obtain rfl := Option.some.inj H
  go_enter Try.func87, Try.ntmps87
  go_wp2
  go_ret
  exact ⟨by first | rfl | (simp; done) | (simp [*]; done), by repeat (first | exact Drawn0.refl _ | apply Drawn0.step)⟩

end Go.Proofs.Ytjghlomkimoeoaa.PConfigMoves
