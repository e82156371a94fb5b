-- Written by fprint.py (wip), by way of the printer's functions; where they are turned, by texts of mine.
import Derived.Test.YtjghlomkimoeoaaPConfigMovesx0
import Derived.Test.YtjghlomkimoeoaaPConfigMovesx8
import Derived.Test.YtjghlomkimoeoaaPConfigMovesx9
namespace Go.Proofs.Ytjghlomkimoeoaa.PConfigMoves
open Go.RowKit Go.Proofs.YtjghlomkimoeoaaW.PrintWords Go.Proofs.YtjghlomkimoeoaaW.PrintLast Go.Proofs.YtjghlomkimoeoaaW.PrintMore
attribute [local go_sem] max2_int min2_int max_two min_two max_three min_three max_four min_four   -- for this text's walks alone
set_option linter.unusedVariables false
set_option linter.unusedSimpArgs false
theorem kz10_1 {p_ : Prop} (h_ : p_ := by (try simp only [List.map_toArray, List.map_cons, List.map_nil]); first | done | rfl | (simp only [List.length_drop, List.length_take]; rfl)) : p_ := h_
theorem kz10_2 {p_ : Prop} (h_ : p_ := by repeat (first | (with_reducible first | exact HB.out | apply below_alloc | apply pw_below_drewN | apply below_drew1) | exact HB.out)) : p_ := h_
theorem kz10_3 {p_ : Prop} (h_ : p_ := by (with_reducible repeat (first | apply Kd.R_alloc | apply Kd.R_drewN | apply Kd.R_drew)); exact HO_5.out) : p_ := h_
theorem kz10_4 {p_ : Prop} (h_ : p_ := by first | (with_reducible assumption) | assumption) : p_ := h_
theorem kz10_5 {p_ : Prop} (h_ : p_ := by (with_reducible repeat (first | apply Kd.R_alloc | apply Kd.R_drewN | apply Kd.R_drew)); exact HO_6.out) : p_ := h_
theorem kz10_6 {p_ : Prop} (h_ : p_ := by first | rfl | (simp; done) | (simp [*]; done)) : p_ := h_

/-! ### tumbrelref09_Within: function 96 -/
def tumbrelref09_Within.f (k : Nat) (l0 : List (S140)) (a1 : Int) (a2 : Int) : Option (Bool) := (tumbrelref09_Formed.f k l0).bind fun t263 => (if t263 = true then (if a1 = (-1) then (if a2 = (-1) then (some true) else ((tumbrelref09_state.f l0 a2).bind fun t264 => (if t264 = true then (if a1 = a2 then (some true) else (if a1 ≥ 0 then ((tumbrelref09_lies.f k l0 a1 a2).bind fun t265 => (some t265)) else (some false))) else (some false)))) else ((tumbrelref09_state.f l0 a1).bind fun t266 => (if t266 = true then (if a2 = (-1) then (some true) else ((tumbrelref09_state.f l0 a2).bind fun t267 => (if t267 = true then (if a1 = a2 then (some true) else (if a1 ≥ 0 then ((tumbrelref09_lies.f k l0 a1 a2).bind fun t268 => (some t268)) else (some false))) else (some false)))) else (some false)))) else (some false))
theorem tumbrelref09_Within.mono : ∀ a0 a1 a2 k, LeO (tumbrelref09_Within.f k a0 a1 a2) (tumbrelref09_Within.f (k + 1) a0 a1 a2) := by
 intro a0 a1 a2 k
 unfold tumbrelref09_Within.f
 repeat' first
   | (with_reducible exact tumbrelref09_Formed.mono _ _)
   | (with_reducible exact tumbrelref09_lies.mono _ _ _ _)
   | (with_reducible exact LeO.refl _)
   | (with_reducible exact LeO.none _)
   | (with_reducible refine LeO.ite ?_ ?_)
   | (with_reducible refine LeO.bind ?_ (fun _ => ?_))
   | exact tumbrelref09_Formed.mono _ _
   | exact tumbrelref09_lies.mono _ _ _ _
   | exact LeO.none _
   | refine LeO.ite ?_ ?_
   | refine LeO.bind ?_ (fun _ => ?_)
set_option maxHeartbeats 8000000 in
set_option maxRecDepth 100000 in
theorem tumbrelref09_Within.calls (k : Nat) (A0 : Option Addr) (c0 : Nat) (l0 : List (S140)) (a1 : Int) (a2 : Int) (r : Bool) (w : World) (hr0 : Kd.C k140 w A0 l0.length l0) (hc0 : l0.length ≤ c0) (h : tumbrelref09_Within.f k l0 a1 a2 = some r) :
  Calls Try.prog 96 #[.slice A0 l0.length c0, .int .i64 a1, .int .i64 a2] w fun e w' => e = .returned (.bool r) ∧ Drawn0 w w' := by
 have HR0 := Aside0.mk hr0
 have HC0 := Aside0.mk hc0
 clear hr0 hc0
 have H : ((tumbrelref09_Formed.f k l0).bind fun t263 => (if t263 = true then (if a1 = (-1) then (if a2 = (-1) then (some true) else ((tumbrelref09_state.f l0 a2).bind fun t264 => (if t264 = true then (if a1 = a2 then (some true) else (if a1 ≥ 0 then ((tumbrelref09_lies.f k l0 a1 a2).bind fun t265 => (some t265)) else (some false))) else (some false)))) else ((tumbrelref09_state.f l0 a1).bind fun t266 => (if t266 = true then (if a2 = (-1) then (some true) else ((tumbrelref09_state.f l0 a2).bind fun t267 => (if t267 = true then (if a1 = a2 then (some true) else (if a1 ≥ 0 then ((tumbrelref09_lies.f k l0 a1 a2).bind fun t268 => (some t268)) else (some false))) else (some false)))) else (some false)))) else (some false))) = some r := h
 clear h
 replace H := Option.bind_eq_some_iff.mp H
 obtain ⟨t263, A40, H⟩ := H
 replace H : (if t263 = true then (if a1 = (-1) then (if a2 = (-1) then (some true) else ((tumbrelref09_state.f l0 a2).bind fun t264 => (if t264 = true then (if a1 = a2 then (some true) else (if a1 ≥ 0 then ((tumbrelref09_lies.f k l0 a1 a2).bind fun t265 => (some t265)) else (some false))) else (some false)))) else ((tumbrelref09_state.f l0 a1).bind fun t266 => (if t266 = true then (if a2 = (-1) then (some true) else ((tumbrelref09_state.f l0 a2).bind fun t267 => (if t267 = true then (if a1 = a2 then (some true) else (if a1 ≥ 0 then ((tumbrelref09_lies.f k l0 a1 a2).bind fun t268 => (some t268)) else (some false))) else (some false)))) else (some false)))) else (some false)) = some r := H
 have A4 := Aside0.mk A40
 clear A40
 by_cases c5 : t263 = true
 ·subst c5
  have H1 : (if a1 = (-1) then (if a2 = (-1) then (some true) else ((tumbrelref09_state.f l0 a2).bind fun t264 => (if t264 = true then (if a1 = a2 then (some true) else (if a1 ≥ 0 then ((tumbrelref09_lies.f k l0 a1 a2).bind fun t265 => (some t265)) else (some false))) else (some false)))) else ((tumbrelref09_state.f l0 a1).bind fun t266 => (if t266 = true then (if a2 = (-1) then (some true) else ((tumbrelref09_state.f l0 a2).bind fun t267 => (if t267 = true then (if a1 = a2 then (some true) else (if a1 ≥ 0 then ((tumbrelref09_lies.f k l0 a1 a2).bind fun t268 => (some t268)) else (some false))) else (some false)))) else (some false)))) = some r := by rw [if_pos rfl] at H; exact H
  clear H
  have H := H1
  clear H1
  by_cases c6 : a1 = (-1)
  ·rw [if_pos c6] at H
   have c6b0 : (a1 == (-1)) = true := beq_iff_eq.mpr c6
   have c6b1 : (a1 != (-1)) = false := bne_eq_false_iff_eq.mpr c6
   clear c6
   by_cases c7 : a2 = (-1)
   ·rw [if_pos c7] at H
    have c7b0 : (a2 == (-1)) = true := beq_iff_eq.mpr c7
    have c7b1 : (a2 != (-1)) = false := bne_eq_false_iff_eq.mpr c7
    clear c7
    obtain rfl := Option.some.inj H
    go_enter Try.func96, Try.ntmps96
    go_wp2_with (first | ((with_reducible refine gate_callee (f := 86) rfl ?_); refine goesL_ (some 8) rfl rfl Try.func86 (by kernel_rfl) rfl #[.slice A0 l0.length c0] rfl kz10_1 ?_; (with_reducible refine (tumbrelref09_Formed.calls k _ _ l0 true _ ?side1 ?side2 A4.out).mono ?_); (case side1 => repeat (first | exact HR0.out | (with_reducible refine Kd.C_alloc ?_ _) | (with_reducible refine Kd.C_drewN ?_ _) | (with_reducible refine Kd.C_drew ?_))); (case side2 => exact HC0.out); rintro e w' ⟨rfl, ⟨nd, rfl⟩⟩; refine ⟨_, rfl, ?_⟩))
    go_ret
    exact ⟨by first | rfl | (simp; done) | (simp [*]; done), by repeat (first | exact Drawn0.refl _ | apply Drawn0.step)⟩
   ·rw [if_neg c7] at H
    have c7b0 : (a2 == (-1)) = false := beq_eq_false_iff_ne.mpr c7
    have c7b1 : (a2 != (-1)) = true := bne_iff_ne.mpr c7
    replace H := Option.bind_eq_some_iff.mp H
    obtain ⟨t264, A80, H⟩ := H
    replace H : (if t264 = true then (if a1 = a2 then (some true) else (if a1 ≥ 0 then ((tumbrelref09_lies.f k l0 a1 a2).bind fun t265 => (some t265)) else (some false))) else (some false)) = some r := H
    have A8 := Aside0.mk A80
    clear A80
    by_cases c9 : t264 = true
    ·subst c9
     have H1 : (if a1 = a2 then (some true) else (if a1 ≥ 0 then ((tumbrelref09_lies.f k l0 a1 a2).bind fun t265 => (some t265)) else (some false))) = some r := by rw [if_pos rfl] at H; exact H
     clear H
     have H := H1
     clear H1
     by_cases c10 : a1 = a2
     ·rw [if_pos c10] at H
      have c10b0 : (a1 == a2) = true := beq_iff_eq.mpr c10
      have c10b1 : (a1 != a2) = false := bne_eq_false_iff_eq.mpr c10
      clear c10
      obtain rfl := Option.some.inj H
      go_enter Try.func96, Try.ntmps96
      go_wp2_with (first | ((with_reducible refine gate_callee (f := 86) rfl ?_); refine goesL_ (some 8) rfl rfl Try.func86 (by kernel_rfl) rfl #[.slice A0 l0.length c0] rfl kz10_1 ?_; (with_reducible refine (tumbrelref09_Formed.calls k _ _ l0 true _ ?side1 ?side2 A4.out).mono ?_); (case side1 => repeat (first | exact HR0.out | (with_reducible refine Kd.C_alloc ?_ _) | (with_reducible refine Kd.C_drewN ?_ _) | (with_reducible refine Kd.C_drew ?_))); (case side2 => exact HC0.out); rintro e w' ⟨rfl, ⟨nd, rfl⟩⟩; refine ⟨_, rfl, ?_⟩) | (go_at_call 87; (with_reducible refine (tumbrelref09_state.calls _ _ l0 a2 true _ ?side1 ?side2 A8.out).mono ?_); (case side1 => repeat (first | exact HR0.out | (with_reducible refine Kd.C_alloc ?_ _) | (with_reducible refine Kd.C_drewN ?_ _) | (with_reducible refine Kd.C_drew ?_))); (case side2 => exact HC0.out); rintro e w' ⟨rfl, ⟨nd, rfl⟩⟩))
      go_ret
      exact ⟨by first | rfl | (simp; done) | (simp [*]; done), by repeat (first | exact Drawn0.refl _ | apply Drawn0.step)⟩
     ·rw [if_neg c10] at H
      have c10b0 : (a1 == a2) = false := beq_eq_false_iff_ne.mpr c10
      have c10b1 : (a1 != a2) = true := bne_iff_ne.mpr c10
      by_cases c11 : a1 ≥ 0
      ·rw [if_pos c11] at H
       have c11b0 : decide (0 ≤ a1) = true := decide_eq_true c11
       clear c11
       replace H := Option.bind_eq_some_iff.mp H
       obtain ⟨t265, A120, H⟩ := H
       replace H : (some t265) = some r := H
       have A12 := Aside0.mk A120
       clear A120
       obtain rfl := Option.some.inj H
       go_enter Try.func96, Try.ntmps96
       go_wp2_with (first | ((with_reducible refine gate_callee (f := 86) rfl ?_); refine goesL_ (some 8) rfl rfl Try.func86 (by kernel_rfl) rfl #[.slice A0 l0.length c0] rfl kz10_1 ?_; (with_reducible refine (tumbrelref09_Formed.calls k _ _ l0 true _ ?side1 ?side2 A4.out).mono ?_); (case side1 => repeat (first | exact HR0.out | (with_reducible refine Kd.C_alloc ?_ _) | (with_reducible refine Kd.C_drewN ?_ _) | (with_reducible refine Kd.C_drew ?_))); (case side2 => exact HC0.out); rintro e w' ⟨rfl, ⟨nd, rfl⟩⟩; refine ⟨_, rfl, ?_⟩) | (go_at_call 87; (with_reducible refine (tumbrelref09_state.calls _ _ l0 a2 true _ ?side1 ?side2 A8.out).mono ?_); (case side1 => repeat (first | exact HR0.out | (with_reducible refine Kd.C_alloc ?_ _) | (with_reducible refine Kd.C_drewN ?_ _) | (with_reducible refine Kd.C_drew ?_))); (case side2 => exact HC0.out); rintro e w' ⟨rfl, ⟨nd, rfl⟩⟩) | (go_at_call 113; (with_reducible refine (tumbrelref09_lies.calls k _ _ l0 a1 a2 t265 _ ?side1 ?side2 A12.out).mono ?_); (case side1 => repeat (first | exact HR0.out | (with_reducible refine Kd.C_alloc ?_ _) | (with_reducible refine Kd.C_drewN ?_ _) | (with_reducible refine Kd.C_drew ?_))); (case side2 => exact HC0.out); rintro e w' ⟨rfl, ⟨nd, rfl⟩⟩))
       go_ret
       exact ⟨by first | rfl | (simp; done) | (simp [*]; done), by repeat (first | exact Drawn0.refl _ | apply Drawn0.step)⟩
      ·rw [if_neg c11] at H
       have c11b0 : decide (0 ≤ a1) = false := decide_eq_false c11
       clear c11
       obtain rfl := Option.some.inj H
       go_enter Try.func96, Try.ntmps96
       go_wp2_with (first | ((with_reducible refine gate_callee (f := 86) rfl ?_); refine goesL_ (some 8) rfl rfl Try.func86 (by kernel_rfl) rfl #[.slice A0 l0.length c0] rfl kz10_1 ?_; (with_reducible refine (tumbrelref09_Formed.calls k _ _ l0 true _ ?side1 ?side2 A4.out).mono ?_); (case side1 => repeat (first | exact HR0.out | (with_reducible refine Kd.C_alloc ?_ _) | (with_reducible refine Kd.C_drewN ?_ _) | (with_reducible refine Kd.C_drew ?_))); (case side2 => exact HC0.out); rintro e w' ⟨rfl, ⟨nd, rfl⟩⟩; refine ⟨_, rfl, ?_⟩) | (go_at_call 87; (with_reducible refine (tumbrelref09_state.calls _ _ l0 a2 true _ ?side1 ?side2 A8.out).mono ?_); (case side1 => repeat (first | exact HR0.out | (with_reducible refine Kd.C_alloc ?_ _) | (with_reducible refine Kd.C_drewN ?_ _) | (with_reducible refine Kd.C_drew ?_))); (case side2 => exact HC0.out); rintro e w' ⟨rfl, ⟨nd, rfl⟩⟩))
       go_ret
       exact ⟨by first | rfl | (simp; done) | (simp [*]; done), by repeat (first | exact Drawn0.refl _ | apply Drawn0.step)⟩
    ·replace c9 := Bool.eq_false_iff.mpr c9
     subst c9
     have H1 : (some false) = some r := by rw [if_neg (show ¬ (false = true) by decide)] at H; exact H
     clear H
     have H := H1
     clear H1
     obtain rfl := Option.some.inj H
     go_enter Try.func96, Try.ntmps96
     go_wp2_with (first | ((with_reducible refine gate_callee (f := 86) rfl ?_); refine goesL_ (some 8) rfl rfl Try.func86 (by kernel_rfl) rfl #[.slice A0 l0.length c0] rfl kz10_1 ?_; (with_reducible refine (tumbrelref09_Formed.calls k _ _ l0 true _ ?side1 ?side2 A4.out).mono ?_); (case side1 => repeat (first | exact HR0.out | (with_reducible refine Kd.C_alloc ?_ _) | (with_reducible refine Kd.C_drewN ?_ _) | (with_reducible refine Kd.C_drew ?_))); (case side2 => exact HC0.out); rintro e w' ⟨rfl, ⟨nd, rfl⟩⟩; refine ⟨_, rfl, ?_⟩) | (go_at_call 87; (with_reducible refine (tumbrelref09_state.calls _ _ l0 a2 false _ ?side1 ?side2 A8.out).mono ?_); (case side1 => repeat (first | exact HR0.out | (with_reducible refine Kd.C_alloc ?_ _) | (with_reducible refine Kd.C_drewN ?_ _) | (with_reducible refine Kd.C_drew ?_))); (case side2 => exact HC0.out); rintro e w' ⟨rfl, ⟨nd, rfl⟩⟩))
     go_ret
     exact ⟨by first | rfl | (simp; done) | (simp [*]; done), by repeat (first | exact Drawn0.refl _ | apply Drawn0.step)⟩
  ·rw [if_neg c6] at H
   have c6b0 : (a1 == (-1)) = false := beq_eq_false_iff_ne.mpr c6
   have c6b1 : (a1 != (-1)) = true := bne_iff_ne.mpr c6
   replace H := Option.bind_eq_some_iff.mp H
   obtain ⟨t266, A130, H⟩ := H
   replace H : (if t266 = true then (if a2 = (-1) then (some true) else ((tumbrelref09_state.f l0 a2).bind fun t267 => (if t267 = true then (if a1 = a2 then (some true) else (if a1 ≥ 0 then ((tumbrelref09_lies.f k l0 a1 a2).bind fun t268 => (some t268)) else (some false))) else (some false)))) else (some false)) = some r := H
   have A13 := Aside0.mk A130
   clear A130
   by_cases c14 : t266 = true
   ·subst c14
    have H1 : (if a2 = (-1) then (some true) else ((tumbrelref09_state.f l0 a2).bind fun t267 => (if t267 = true then (if a1 = a2 then (some true) else (if a1 ≥ 0 then ((tumbrelref09_lies.f k l0 a1 a2).bind fun t268 => (some t268)) else (some false))) else (some false)))) = some r := by rw [if_pos rfl] at H; exact H
    clear H
    have H := H1
    clear H1
    by_cases c15 : a2 = (-1)
    ·rw [if_pos c15] at H
     have c15b0 : (a2 == (-1)) = true := beq_iff_eq.mpr c15
     have c15b1 : (a2 != (-1)) = false := bne_eq_false_iff_eq.mpr c15
     clear c15
     obtain rfl := Option.some.inj H
     go_enter Try.func96, Try.ntmps96
     go_wp2_with (first | ((with_reducible refine gate_callee (f := 86) rfl ?_); refine goesL_ (some 8) rfl rfl Try.func86 (by kernel_rfl) rfl #[.slice A0 l0.length c0] rfl kz10_1 ?_; (with_reducible refine (tumbrelref09_Formed.calls k _ _ l0 true _ ?side1 ?side2 A4.out).mono ?_); (case side1 => repeat (first | exact HR0.out | (with_reducible refine Kd.C_alloc ?_ _) | (with_reducible refine Kd.C_drewN ?_ _) | (with_reducible refine Kd.C_drew ?_))); (case side2 => exact HC0.out); rintro e w' ⟨rfl, ⟨nd, rfl⟩⟩; refine ⟨_, rfl, ?_⟩) | (go_at_call 87; (with_reducible refine (tumbrelref09_state.calls _ _ l0 a1 true _ ?side1 ?side2 A13.out).mono ?_); (case side1 => repeat (first | exact HR0.out | (with_reducible refine Kd.C_alloc ?_ _) | (with_reducible refine Kd.C_drewN ?_ _) | (with_reducible refine Kd.C_drew ?_))); (case side2 => exact HC0.out); rintro e w' ⟨rfl, ⟨nd, rfl⟩⟩))
     go_ret
     exact ⟨by first | rfl | (simp; done) | (simp [*]; done), by repeat (first | exact Drawn0.refl _ | apply Drawn0.step)⟩
    ·rw [if_neg c15] at H
     have c15b0 : (a2 == (-1)) = false := beq_eq_false_iff_ne.mpr c15
     have c15b1 : (a2 != (-1)) = true := bne_iff_ne.mpr c15
     replace H := Option.bind_eq_some_iff.mp H
     obtain ⟨t267, A160, H⟩ := H
     replace H : (if t267 = true then (if a1 = a2 then (some true) else (if a1 ≥ 0 then ((tumbrelref09_lies.f k l0 a1 a2).bind fun t268 => (some t268)) else (some false))) else (some false)) = some r := H
     have A16 := Aside0.mk A160
     clear A160
     by_cases c17 : t267 = true
     ·subst c17
      have H1 : (if a1 = a2 then (some true) else (if a1 ≥ 0 then ((tumbrelref09_lies.f k l0 a1 a2).bind fun t268 => (some t268)) else (some false))) = some r := by rw [if_pos rfl] at H; exact H
      clear H
      have H := H1
      clear H1
      by_cases c18 : a1 = a2
      ·rw [if_pos c18] at H
       have c18b0 : (a1 == a2) = true := beq_iff_eq.mpr c18
       have c18b1 : (a1 != a2) = false := bne_eq_false_iff_eq.mpr c18
       clear c18
       obtain rfl := Option.some.inj H
       go_enter Try.func96, Try.ntmps96
       go_wp2_with (first | ((with_reducible refine gate_callee (f := 86) rfl ?_); refine goesL_ (some 8) rfl rfl Try.func86 (by kernel_rfl) rfl #[.slice A0 l0.length c0] rfl kz10_1 ?_; (with_reducible refine (tumbrelref09_Formed.calls k _ _ l0 true _ ?side1 ?side2 A4.out).mono ?_); (case side1 => repeat (first | exact HR0.out | (with_reducible refine Kd.C_alloc ?_ _) | (with_reducible refine Kd.C_drewN ?_ _) | (with_reducible refine Kd.C_drew ?_))); (case side2 => exact HC0.out); rintro e w' ⟨rfl, ⟨nd, rfl⟩⟩; refine ⟨_, rfl, ?_⟩) | (go_at_call 87; (with_reducible refine (tumbrelref09_state.calls _ _ l0 a1 true _ ?side1 ?side2 A13.out).mono ?_); (case side1 => repeat (first | exact HR0.out | (with_reducible refine Kd.C_alloc ?_ _) | (with_reducible refine Kd.C_drewN ?_ _) | (with_reducible refine Kd.C_drew ?_))); (case side2 => exact HC0.out); rintro e w' ⟨rfl, ⟨nd, rfl⟩⟩) | (go_at_call 87; (with_reducible refine (tumbrelref09_state.calls _ _ l0 a2 true _ ?side1 ?side2 A16.out).mono ?_); (case side1 => repeat (first | exact HR0.out | (with_reducible refine Kd.C_alloc ?_ _) | (with_reducible refine Kd.C_drewN ?_ _) | (with_reducible refine Kd.C_drew ?_))); (case side2 => exact HC0.out); rintro e w' ⟨rfl, ⟨nd, rfl⟩⟩))
       go_ret
       exact ⟨by first | rfl | (simp; done) | (simp [*]; done), by repeat (first | exact Drawn0.refl _ | apply Drawn0.step)⟩
      ·rw [if_neg c18] at H
       have c18b0 : (a1 == a2) = false := beq_eq_false_iff_ne.mpr c18
       have c18b1 : (a1 != a2) = true := bne_iff_ne.mpr c18
       by_cases c19 : a1 ≥ 0
       ·rw [if_pos c19] at H
        have c19b0 : decide (0 ≤ a1) = true := decide_eq_true c19
        clear c19
        replace H := Option.bind_eq_some_iff.mp H
        obtain ⟨t268, A200, H⟩ := H
        replace H : (some t268) = some r := H
        have A20 := Aside0.mk A200
        clear A200
        obtain rfl := Option.some.inj H
        go_enter Try.func96, Try.ntmps96
        go_wp2_with (first | ((with_reducible refine gate_callee (f := 86) rfl ?_); refine goesL_ (some 8) rfl rfl Try.func86 (by kernel_rfl) rfl #[.slice A0 l0.length c0] rfl kz10_1 ?_; (with_reducible refine (tumbrelref09_Formed.calls k _ _ l0 true _ ?side1 ?side2 A4.out).mono ?_); (case side1 => repeat (first | exact HR0.out | (with_reducible refine Kd.C_alloc ?_ _) | (with_reducible refine Kd.C_drewN ?_ _) | (with_reducible refine Kd.C_drew ?_))); (case side2 => exact HC0.out); rintro e w' ⟨rfl, ⟨nd, rfl⟩⟩; refine ⟨_, rfl, ?_⟩) | (go_at_call 87; (with_reducible refine (tumbrelref09_state.calls _ _ l0 a1 true _ ?side1 ?side2 A13.out).mono ?_); (case side1 => repeat (first | exact HR0.out | (with_reducible refine Kd.C_alloc ?_ _) | (with_reducible refine Kd.C_drewN ?_ _) | (with_reducible refine Kd.C_drew ?_))); (case side2 => exact HC0.out); rintro e w' ⟨rfl, ⟨nd, rfl⟩⟩) | (go_at_call 87; (with_reducible refine (tumbrelref09_state.calls _ _ l0 a2 true _ ?side1 ?side2 A16.out).mono ?_); (case side1 => repeat (first | exact HR0.out | (with_reducible refine Kd.C_alloc ?_ _) | (with_reducible refine Kd.C_drewN ?_ _) | (with_reducible refine Kd.C_drew ?_))); (case side2 => exact HC0.out); rintro e w' ⟨rfl, ⟨nd, rfl⟩⟩) | (go_at_call 113; (with_reducible refine (tumbrelref09_lies.calls k _ _ l0 a1 a2 t268 _ ?side1 ?side2 A20.out).mono ?_); (case side1 => repeat (first | exact HR0.out | (with_reducible refine Kd.C_alloc ?_ _) | (with_reducible refine Kd.C_drewN ?_ _) | (with_reducible refine Kd.C_drew ?_))); (case side2 => exact HC0.out); rintro e w' ⟨rfl, ⟨nd, rfl⟩⟩))
        go_ret
        exact ⟨by first | rfl | (simp; done) | (simp [*]; done), by repeat (first | exact Drawn0.refl _ | apply Drawn0.step)⟩
       ·rw [if_neg c19] at H
        have c19b0 : decide (0 ≤ a1) = false := decide_eq_false c19
        clear c19
        obtain rfl := Option.some.inj H
        go_enter Try.func96, Try.ntmps96
        go_wp2_with (first | ((with_reducible refine gate_callee (f := 86) rfl ?_); refine goesL_ (some 8) rfl rfl Try.func86 (by kernel_rfl) rfl #[.slice A0 l0.length c0] rfl kz10_1 ?_; (with_reducible refine (tumbrelref09_Formed.calls k _ _ l0 true _ ?side1 ?side2 A4.out).mono ?_); (case side1 => repeat (first | exact HR0.out | (with_reducible refine Kd.C_alloc ?_ _) | (with_reducible refine Kd.C_drewN ?_ _) | (with_reducible refine Kd.C_drew ?_))); (case side2 => exact HC0.out); rintro e w' ⟨rfl, ⟨nd, rfl⟩⟩; refine ⟨_, rfl, ?_⟩) | (go_at_call 87; (with_reducible refine (tumbrelref09_state.calls _ _ l0 a1 true _ ?side1 ?side2 A13.out).mono ?_); (case side1 => repeat (first | exact HR0.out | (with_reducible refine Kd.C_alloc ?_ _) | (with_reducible refine Kd.C_drewN ?_ _) | (with_reducible refine Kd.C_drew ?_))); (case side2 => exact HC0.out); rintro e w' ⟨rfl, ⟨nd, rfl⟩⟩) | (go_at_call 87; (with_reducible refine (tumbrelref09_state.calls _ _ l0 a2 true _ ?side1 ?side2 A16.out).mono ?_); (case side1 => repeat (first | exact HR0.out | (with_reducible refine Kd.C_alloc ?_ _) | (with_reducible refine Kd.C_drewN ?_ _) | (with_reducible refine Kd.C_drew ?_))); (case side2 => exact HC0.out); rintro e w' ⟨rfl, ⟨nd, rfl⟩⟩))
        go_ret
        exact ⟨by first | rfl | (simp; done) | (simp [*]; done), by repeat (first | exact Drawn0.refl _ | apply Drawn0.step)⟩
     ·replace c17 := Bool.eq_false_iff.mpr c17
      subst c17
      have H1 : (some false) = some r := by rw [if_neg (show ¬ (false = true) by decide)] at H; exact H
      clear H
      have H := H1
      clear H1
      obtain rfl := Option.some.inj H
      go_enter Try.func96, Try.ntmps96
      go_wp2_with (first | ((with_reducible refine gate_callee (f := 86) rfl ?_); refine goesL_ (some 8) rfl rfl Try.func86 (by kernel_rfl) rfl #[.slice A0 l0.length c0] rfl kz10_1 ?_; (with_reducible refine (tumbrelref09_Formed.calls k _ _ l0 true _ ?side1 ?side2 A4.out).mono ?_); (case side1 => repeat (first | exact HR0.out | (with_reducible refine Kd.C_alloc ?_ _) | (with_reducible refine Kd.C_drewN ?_ _) | (with_reducible refine Kd.C_drew ?_))); (case side2 => exact HC0.out); rintro e w' ⟨rfl, ⟨nd, rfl⟩⟩; refine ⟨_, rfl, ?_⟩) | (go_at_call 87; (with_reducible refine (tumbrelref09_state.calls _ _ l0 a1 true _ ?side1 ?side2 A13.out).mono ?_); (case side1 => repeat (first | exact HR0.out | (with_reducible refine Kd.C_alloc ?_ _) | (with_reducible refine Kd.C_drewN ?_ _) | (with_reducible refine Kd.C_drew ?_))); (case side2 => exact HC0.out); rintro e w' ⟨rfl, ⟨nd, rfl⟩⟩) | (go_at_call 87; (with_reducible refine (tumbrelref09_state.calls _ _ l0 a2 false _ ?side1 ?side2 A16.out).mono ?_); (case side1 => repeat (first | exact HR0.out | (with_reducible refine Kd.C_alloc ?_ _) | (with_reducible refine Kd.C_drewN ?_ _) | (with_reducible refine Kd.C_drew ?_))); (case side2 => exact HC0.out); rintro e w' ⟨rfl, ⟨nd, rfl⟩⟩))
      go_ret
      exact ⟨by first | rfl | (simp; done) | (simp [*]; done), by repeat (first | exact Drawn0.refl _ | apply Drawn0.step)⟩
   ·replace c14 := Bool.eq_false_iff.mpr c14
    subst c14
    have H1 : (some false) = some r := by rw [if_neg (show ¬ (false = true) by decide)] at H; exact H
    clear H
    have H := H1
    clear H1
    obtain rfl := Option.some.inj H
    go_enter Try.func96, Try.ntmps96
    go_wp2_with (first | ((with_reducible refine gate_callee (f := 86) rfl ?_); refine goesL_ (some 8) rfl rfl Try.func86 (by kernel_rfl) rfl #[.slice A0 l0.length c0] rfl kz10_1 ?_; (with_reducible refine (tumbrelref09_Formed.calls k _ _ l0 true _ ?side1 ?side2 A4.out).mono ?_); (case side1 => repeat (first | exact HR0.out | (with_reducible refine Kd.C_alloc ?_ _) | (with_reducible refine Kd.C_drewN ?_ _) | (with_reducible refine Kd.C_drew ?_))); (case side2 => exact HC0.out); rintro e w' ⟨rfl, ⟨nd, rfl⟩⟩; refine ⟨_, rfl, ?_⟩) | (go_at_call 87; (with_reducible refine (tumbrelref09_state.calls _ _ l0 a1 false _ ?side1 ?side2 A13.out).mono ?_); (case side1 => repeat (first | exact HR0.out | (with_reducible refine Kd.C_alloc ?_ _) | (with_reducible refine Kd.C_drewN ?_ _) | (with_reducible refine Kd.C_drew ?_))); (case side2 => exact HC0.out); rintro e w' ⟨rfl, ⟨nd, rfl⟩⟩))
    go_ret
    exact ⟨by first | rfl | (simp; done) | (simp [*]; done), by repeat (first | exact Drawn0.refl _ | apply Drawn0.step)⟩
 ·replace c5 := Bool.eq_false_iff.mpr c5
  subst c5
  have H1 : (some false) = some r := by rw [if_neg (show ¬ (false = true) by decide)] at H; exact H
  clear H
  have H := H1
  clear H1
  obtain rfl := Option.some.inj H
  go_enter Try.func96, Try.ntmps96
  go_wp2_with (first | ((with_reducible refine gate_callee (f := 86) rfl ?_); refine goesL_ (some 8) rfl rfl Try.func86 (by kernel_rfl) rfl #[.slice A0 l0.length c0] rfl kz10_1 ?_; (with_reducible refine (tumbrelref09_Formed.calls k _ _ l0 false _ ?side1 ?side2 A4.out).mono ?_); (case side1 => repeat (first | exact HR0.out | (with_reducible refine Kd.C_alloc ?_ _) | (with_reducible refine Kd.C_drewN ?_ _) | (with_reducible refine Kd.C_drew ?_))); (case side2 => exact HC0.out); rintro e w' ⟨rfl, ⟨nd, rfl⟩⟩; refine ⟨_, rfl, ?_⟩))
  go_ret
  exact ⟨by first | rfl | (simp; done) | (simp [*]; done), by repeat (first | exact Drawn0.refl _ | apply Drawn0.step)⟩

/-! ### tumbrelref09_Inner: function 89 -/
mutual
def tumbrelref09_Inner.j0 : Nat → List (S140) → Int → Bool → Option (List Int)
 | 0, _, _, _ => none
 | k + 1, x0, x1, x19 => if x19 = true then (some ([] : List Int)) else (tumbrelref09_Inner.l0 k x0 x1 ([] : List Int) (x0.length : Int) 0)
def tumbrelref09_Inner.l0 : Nat → List (S140) → Int → List Int → Int → Int → Option (List Int)
 | 0, _, _, _, _, _ => none
 | k + 1, x0, x1, x5, x21, x22 => if x22 < x21 then (if 0 ≤ x22 then (if x22 < (x0.length : Int) then (if ((rd_T140 x0 x22).f1) = x1 then (if x5.length < 17592186044416 then (tumbrelref09_Inner.l0 k x0 x1 (x5 ++ [x22]) x21 (wrap64 (x22 + 1))) else (none)) else (tumbrelref09_Inner.l0 k x0 x1 x5 x21 (wrap64 (x22 + 1)))) else (none)) else (none)) else (some x5)
end
def tumbrelref09_Inner.f (k : Nat) (l0 : List (S140)) (a1 : Int) : Option (List Int) := (tumbrelref09_Formed.f k l0).bind fun t269 => (if t269 = true then (if a1 = (-1) then (tumbrelref09_Inner.j0 k l0 a1 false) else ((tumbrelref09_state.f l0 a1).bind fun t270 => (tumbrelref09_Inner.j0 k l0 a1 (!t270)))) else (tumbrelref09_Inner.j0 k l0 a1 true))
theorem tumbrelref09_Inner.mono_l : ∀ k, (∀ y0 y1 y2, LeO (tumbrelref09_Inner.j0 k y0 y1 y2) (tumbrelref09_Inner.j0 (k + 1) y0 y1 y2)) ∧ (∀ y0 y1 y2 y3 y4, LeO (tumbrelref09_Inner.l0 k y0 y1 y2 y3 y4) (tumbrelref09_Inner.l0 (k + 1) y0 y1 y2 y3 y4))
 | 0 => ⟨fun _ _ _ r h => by simp [tumbrelref09_Inner.j0] at h, fun _ _ _ _ _ r h => by simp [tumbrelref09_Inner.l0] at h⟩
 | k + 1 => by
  obtain ⟨ih0, ih1⟩ := tumbrelref09_Inner.mono_l k
  refine ⟨?_, ?_⟩
  ·intro y0 y1 y2
   unfold tumbrelref09_Inner.j0
   repeat' first
   | (with_reducible exact ih0 _ _ _)
   | (with_reducible exact ih1 _ _ _ _ _)
   | (with_reducible exact tumbrelref09_Formed.mono _ _)
   | (with_reducible exact LeO.refl _)
   | (with_reducible exact LeO.none _)
   | (with_reducible refine LeO.ite ?_ ?_)
   | (with_reducible refine LeO.bind ?_ (fun _ => ?_))
   | exact ih0 _ _ _
   | exact ih1 _ _ _ _ _
   | exact tumbrelref09_Formed.mono _ _
   | exact LeO.none _
   | refine LeO.ite ?_ ?_
   | refine LeO.bind ?_ (fun _ => ?_)
  ·intro y0 y1 y2 y3 y4
   unfold tumbrelref09_Inner.l0
   repeat' first
   | (with_reducible exact ih0 _ _ _)
   | (with_reducible exact ih1 _ _ _ _ _)
   | (with_reducible exact tumbrelref09_Formed.mono _ _)
   | (with_reducible exact LeO.refl _)
   | (with_reducible exact LeO.none _)
   | (with_reducible refine LeO.ite ?_ ?_)
   | (with_reducible refine LeO.bind ?_ (fun _ => ?_))
   | exact ih0 _ _ _
   | exact ih1 _ _ _ _ _
   | exact tumbrelref09_Formed.mono _ _
   | exact LeO.none _
   | refine LeO.ite ?_ ?_
   | refine LeO.bind ?_ (fun _ => ?_)
theorem tumbrelref09_Inner.mono : ∀ a0 a1 k, LeO (tumbrelref09_Inner.f k a0 a1) (tumbrelref09_Inner.f (k + 1) a0 a1) := by
 intro a0 a1 k
 obtain ⟨ih0, ih1⟩ := tumbrelref09_Inner.mono_l k
 unfold tumbrelref09_Inner.f
 repeat' first
   | (with_reducible exact ih0 _ _ _)
   | (with_reducible exact ih1 _ _ _ _ _)
   | (with_reducible exact tumbrelref09_Formed.mono _ _)
   | (with_reducible exact LeO.refl _)
   | (with_reducible exact LeO.none _)
   | (with_reducible refine LeO.ite ?_ ?_)
   | (with_reducible refine LeO.bind ?_ (fun _ => ?_))
   | exact ih0 _ _ _
   | exact ih1 _ _ _ _ _
   | exact tumbrelref09_Formed.mono _ _
   | exact LeO.none _
   | refine LeO.ite ?_ ?_
   | refine LeO.bind ?_ (fun _ => ?_)
set_option maxHeartbeats 8000000 in
set_option maxRecDepth 100000 in
theorem tumbrelref09_Inner.calls (k : Nat) (A0 : Option Addr) (c0 : Nat) (l0 : List (S140)) (a1 : Int) (r : List Int) (w : World) (hr0 : Kd.C k140 w A0 l0.length l0) (hc0 : l0.length ≤ c0) (h : tumbrelref09_Inner.f k l0 a1 = some r) :
  Calls Try.prog 89 #[.slice A0 l0.length c0, .int .i64 a1] w fun e w' => ∃ v0_ : Value, e = .returned (v0_) ∧ Kd.R (Kd.int .i64) 3 w' w.heap.size (fun _ => True) v0_ r ∧ Below w.heap.size w w' := by
 have HR0 := Aside0.mk hr0
 have HC0 := Aside0.mk hc0
 clear hr0 hc0
 have HB := Aside0.mk (Below.refl w.heap.size w)
 have H : ((tumbrelref09_Formed.f k l0).bind fun t269 => (if t269 = true then (if a1 = (-1) then (tumbrelref09_Inner.j0 k l0 a1 false) else ((tumbrelref09_state.f l0 a1).bind fun t270 => (tumbrelref09_Inner.j0 k l0 a1 (!t270)))) else (tumbrelref09_Inner.j0 k l0 a1 true))) = some r := h
 clear h
 have HC3 := Aside0.mk H
 clear H
 go_enter Try.func89, Try.ntmps89
 go_upto_region 1 with (fail)
 go_cut [19] (fun v19 wc => ∃ (kq : Nat) (x19_2 : Bool), v19 = .bool x19_2 ∧ Aside0 (tumbrelref09_Inner.j0 kq l0 a1 x19_2 = some r) ∧ Aside0 (kq ≤ k) ∧ Aside0 (Below w.heap.size w wc))
 case first =>
  have H := HC3.out
  clear HC3
  replace H := Option.bind_eq_some_iff.mp H
  obtain ⟨t269, A40, H⟩ := H
  replace H : (if t269 = true then (if a1 = (-1) then (tumbrelref09_Inner.j0 k l0 a1 false) else ((tumbrelref09_state.f l0 a1).bind fun t270 => (tumbrelref09_Inner.j0 k l0 a1 (!t270)))) else (tumbrelref09_Inner.j0 k l0 a1 true)) = some r := H
  have A4 := Aside0.mk A40
  clear A40
  by_cases c5 : t269 = true
  ·subst c5
   have H1 : (if a1 = (-1) then (tumbrelref09_Inner.j0 k l0 a1 false) else ((tumbrelref09_state.f l0 a1).bind fun t270 => (tumbrelref09_Inner.j0 k l0 a1 (!t270)))) = some r := by rw [if_pos rfl] at H; exact H
   clear H
   have H := H1
   clear H1
   by_cases c6 : a1 = (-1)
   ·rw [if_pos c6] at H
    have c6b0 : (a1 == (-1)) = true := beq_iff_eq.mpr c6
    have c6b1 : (a1 != (-1)) = false := bne_eq_false_iff_eq.mpr c6
    clear c6
    (first | rw [c6b0] | (simp only [i64_w, i32_w]; rw [c6b0]) | skip)
    have H' := Aside0.mk H
    clear H
    go_wp2_with (first | ((with_reducible refine gate_callee (f := 86) rfl ?_); refine goesL_ (some 8) rfl rfl Try.func86 (by kernel_rfl) rfl #[.slice A0 l0.length c0] rfl kz10_1 ?_; (with_reducible refine (tumbrelref09_Formed.calls k _ _ l0 true _ ?side1 ?side2 A4.out).mono ?_); (case side1 => repeat (first | exact (Kd.C_below HR0.out HB.out) | (with_reducible refine Kd.C_alloc ?_ _) | (with_reducible refine Kd.C_drewN ?_ _) | (with_reducible refine Kd.C_drew ?_))); (case side2 => exact HC0.out); rintro e w' ⟨rfl, ⟨nd, rfl⟩⟩; refine ⟨_, rfl, ?_⟩))
    go_meet
    case rel => exact ⟨_, (false), kz10_6, H', ⟨by first | omega | exact Nat.le_refl _⟩, ⟨by repeat (first | (with_reducible first | exact HB.out | apply below_alloc | apply pw_below_drewN | apply below_drew1) | exact HB.out)⟩⟩
   ·rw [if_neg c6] at H
    have c6b0 : (a1 == (-1)) = false := beq_eq_false_iff_ne.mpr c6
    have c6b1 : (a1 != (-1)) = true := bne_iff_ne.mpr c6
    (first | rw [c6b0] | (simp only [i64_w, i32_w]; rw [c6b0]) | skip)
    replace H := Option.bind_eq_some_iff.mp H
    obtain ⟨t270, A70, H⟩ := H
    replace H : (tumbrelref09_Inner.j0 k l0 a1 (!t270)) = some r := H
    have A7 := Aside0.mk A70
    clear A70
    have H' := Aside0.mk H
    clear H
    go_wp2_with (first | ((with_reducible refine gate_callee (f := 86) rfl ?_); refine goesL_ (some 8) rfl rfl Try.func86 (by kernel_rfl) rfl #[.slice A0 l0.length c0] rfl kz10_1 ?_; (with_reducible refine (tumbrelref09_Formed.calls k _ _ l0 true _ ?side1 ?side2 A4.out).mono ?_); (case side1 => repeat (first | exact (Kd.C_below HR0.out HB.out) | (with_reducible refine Kd.C_alloc ?_ _) | (with_reducible refine Kd.C_drewN ?_ _) | (with_reducible refine Kd.C_drew ?_))); (case side2 => exact HC0.out); rintro e w' ⟨rfl, ⟨nd, rfl⟩⟩; refine ⟨_, rfl, ?_⟩) | (go_at_call 87; (with_reducible refine (tumbrelref09_state.calls _ _ l0 a1 t270 _ ?side1 ?side2 A7.out).mono ?_); (case side1 => repeat (first | exact (Kd.C_below HR0.out kz10_2) | (with_reducible refine Kd.C_alloc ?_ _) | (with_reducible refine Kd.C_drewN ?_ _) | (with_reducible refine Kd.C_drew ?_))); (case side2 => exact HC0.out); rintro e w' ⟨rfl, ⟨nd, rfl⟩⟩))
    go_meet
    case rel => exact ⟨_, (!t270), kz10_6, H', ⟨by first | omega | exact Nat.le_refl _⟩, ⟨by repeat (first | (with_reducible first | exact HB.out | apply below_alloc | apply pw_below_drewN | apply below_drew1) | exact HB.out)⟩⟩
  ·replace c5 := Bool.eq_false_iff.mpr c5
   subst c5
   have H1 : (tumbrelref09_Inner.j0 k l0 a1 true) = some r := by rw [if_neg (show ¬ (false = true) by decide)] at H; exact H
   clear H
   have H := H1
   clear H1
   have H' := Aside0.mk H
   clear H
   go_wp2_with (first | ((with_reducible refine gate_callee (f := 86) rfl ?_); refine goesL_ (some 8) rfl rfl Try.func86 (by kernel_rfl) rfl #[.slice A0 l0.length c0] rfl kz10_1 ?_; (with_reducible refine (tumbrelref09_Formed.calls k _ _ l0 false _ ?side1 ?side2 A4.out).mono ?_); (case side1 => repeat (first | exact (Kd.C_below HR0.out HB.out) | (with_reducible refine Kd.C_alloc ?_ _) | (with_reducible refine Kd.C_drewN ?_ _) | (with_reducible refine Kd.C_drew ?_))); (case side2 => exact HC0.out); rintro e w' ⟨rfl, ⟨nd, rfl⟩⟩; refine ⟨_, rfl, ?_⟩))
   go_meet
   case rel => exact ⟨_, (true), kz10_6, H', ⟨by first | omega | exact Nat.le_refl _⟩, ⟨by repeat (first | (with_reducible first | exact HB.out | apply below_alloc | apply pw_below_drewN | apply below_drew1) | exact HB.out)⟩⟩
 case rest =>
  clear HC3
  try clear p2
  try clear c5
  try clear c6
  try clear c6b0
  try clear c6b1
  obtain ⟨kq, x19_2, rfl, HA, HJ2, HB⟩ := hcut
  cases kq with
  | zero => exact absurd HA.out (by simp [tumbrelref09_Inner.j0])
  | succ kj2 =>
   have H := HA.out
   clear HA
   simp only [tumbrelref09_Inner.j0] at H
   by_cases c8 : x19_2 = true
   ·subst c8
    have H1 : (some ([] : List Int)) = some r := by rw [if_pos rfl] at H; exact H
    clear H
    have H := H1
    clear H1
    obtain rfl := Option.some.inj H
    go_wp2
    go_ret
    exact ⟨_, by first | rfl | (simp [errW_none, errW_some] <;> rfl) | (simp [*, errW_none, errW_some] <;> rfl), by first | exact Kd.R_nil _ _ _ _ _ | exact Kd.N_nil _ _ _ _ _ | exact Kd.V_nil _ _ _ _ _ | exact Kd.Q_nil _ _ _ _ _ | exact Kd.S_nil _ _ _ _ _, by repeat (first | (with_reducible first | exact HB.out | apply below_alloc | apply pw_below_drewN | apply below_drew1) | exact HB.out)⟩
   ·replace c8 := Bool.eq_false_iff.mpr c8
    subst c8
    have H1 : (tumbrelref09_Inner.l0 kj2 l0 a1 ([] : List Int) (l0.length : Int) 0) = some r := by rw [if_neg (show ¬ (false = true) by decide)] at H; exact H
    clear H
    have H := H1
    clear H1
    have H' := Aside0.mk H
    clear H
    go_wp2
    go_loopg [5, 22] kj2 (fun kq v5 v22 w' => ∃ (x5_2 : List Int) (x22_2 : Int), v22 = .int .i64 x22_2 ∧ Aside0 (tumbrelref09_Inner.l0 kq l0 a1 x5_2 (l0.length : Int) x22_2 = some r) ∧ Aside0 (kq ≤ kj2) ∧ Aside0 (Kd.R (Kd.int .i64) 3 w' w.heap.size (fun _ => True) v5 x5_2) ∧ Aside0 (Below w.heap.size w w'))
    case atStart => exact ⟨(([] : List Int)), (0), kz10_6, H', ⟨Nat.le_refl _⟩, ⟨by first | exact Kd.R_nil _ _ _ _ _ | exact Kd.N_nil _ _ _ _ _ | exact Kd.V_nil _ _ _ _ _ | exact Kd.Q_nil _ _ _ _ _ | exact Kd.S_nil _ _ _ _ _⟩, ⟨by repeat (first | (with_reducible first | exact HB.out | apply below_alloc | apply pw_below_drewN | apply below_drew1) | exact HB.out)⟩⟩
    case round =>
     clear H'
     try clear p2
     try clear c5
     try clear c6
     try clear c6b0
     try clear c6b1
     try clear c8
     try clear p2
     obtain ⟨x5_2, x22_2, rfl, HA, HK2, HO_5, HB⟩ := hrel
     cases gk with
     | zero => exact absurd HA.out (by simp [tumbrelref09_Inner.l0])
     | succ k2 =>
      have H := HA.out
      clear HA
      simp only [tumbrelref09_Inner.l0] at H
      by_cases c9 : x22_2 < (l0.length : Int)
      ·rw [if_pos c9] at H
       have c9b0 : decide (x22_2 < (l0.length : Int)) = true := decide_eq_true c9
       clear c9
       by_cases c10 : 0 ≤ x22_2
       ·rw [if_pos c10] at H
        have c10b0 : decide (0 ≤ x22_2) = true := decide_eq_true c10
        clear c10
        by_cases c11 : x22_2 < (l0.length : Int)
        ·rw [if_pos c11] at H
         have c11b0 : decide (x22_2 < (l0.length : Int)) = true := decide_eq_true c11
         clear c11
         by_cases c12 : ((rd_T140 l0 x22_2).f1) = a1
         ·rw [if_pos c12] at H
          have c12b0 : (((rd_T140 l0 x22_2).f1) == a1) = true := beq_iff_eq.mpr c12
          have c12b1 : (((rd_T140 l0 x22_2).f1) != a1) = false := bne_eq_false_iff_eq.mpr c12
          clear c12
          by_cases c13 : x5_2.length < 17592186044416
          ·rw [if_pos c13] at H
           have LMc13 := Aside0.mk c13
           clear c13
           obtain ⟨y272, hy272⟩ : ∃ y_ : List Int, y_ = (x5_2 ++ [x22_2]) := ⟨_, rfl⟩
           replace H : (tumbrelref09_Inner.l0 k2 l0 a1 y272 (l0.length : Int) (wrap64 (x22_2 + 1))) = some r := by first | (rw [hy272]; with_reducible exact H) | (have H2_ := (Option.bind_some _ _).symm.trans H; rw [hy272]; with_reducible exact H2_) | (have H2_ := (Option.bind_some _ _).symm.trans H; with_reducible exact H2_) | with_reducible exact H | (rw [hy272]; exact H) | exact H
           have Ny272 := Aside0.mk hy272
           clear hy272
           have H' := Aside0.mk H
           clear H
           have p271 : 0 ≤ (x22_2 : Int) := of_decide_eq_true kz10_4
           have q271 : x22_2 < (l0.length : Int) := of_decide_eq_true kz10_4
           obtain ⟨ad271, e271, hx271_0, hx271_1, hx271_2, hx271_3, hx271_4, hx271_5, hx271_6⟩ := at_T140 HR0.out x22_2 p271 q271
           cases e271
           replace hx271_0 := (HB.out.cell (World.block_lt_of_cell? w _ hx271_0)).trans hx271_0
           replace hx271_1 := (HB.out.cell (World.block_lt_of_cell? w _ hx271_1)).trans hx271_1
           replace hx271_2 := (HB.out.cell (World.block_lt_of_cell? w _ hx271_2)).trans hx271_2
           replace hx271_3 := (HB.out.cell (World.block_lt_of_cell? w _ hx271_3)).trans hx271_3
           replace hx271_4 := (HB.out.cell (World.block_lt_of_cell? w _ hx271_4)).trans hx271_4
           replace hx271_5 := (HB.out.cell (World.block_lt_of_cell? w _ hx271_5)).trans hx271_5
           replace hx271_6 := (HB.out.cell (World.block_lt_of_cell? w _ hx271_6)).trans hx271_6
           replace p271 := eq_true p271
           replace q271 := eq_true q271
           go_wp2_with (first | ((with_reducible refine gate_builtin (b := .append) (xs := #[.tmp 32, .tmp 34]) rfl ?_); at_builtin; refine Kd.R_append (Kd.int .i64) (w0 := w) w.heap.size rfl (.tmp 32) (.tmp 34) 65 3 (.int .i64 0) 8 rfl Try.underlying65 info3 rfl (by decide) (by omega) u5 x5_2 x22_2 [.int .i64 x22_2] (fun _ => True) (fun _ => False) rfl rfl ?aP (fun _ hk => hk.elim) ?aF ?aO ?aB ?aS ?aL ?_; (case aP => exact rfl); (case aB => exact kz10_2); (case aF => exact (fun _ _ => trivial)); (case aO => exact kz10_3); (case aS => exact (below_size kz10_2)); (case aL => have := LMc13.out; omega); intro v273 w14 ho hb hg hat; rw [← Ny272.out] at ho; have n0_ := Aside0.mk (hb); have n1_ := Aside0.mk (ho); clear HB; clear HO_5; have HB := n0_; have HO274 := n1_; clear n0_ n1_; clear ho hb hg hat))
           go_roundg k2
           case measure => have := HJ2.out; have := HK2.out; omega
           case rel => exact ⟨(y272), (wrap64 (x22_2 + 1)), kz10_6, H', ⟨by have := HJ2.out; have := HK2.out; omega⟩, ⟨by (with_reducible repeat (first | apply Kd.R_alloc | apply Kd.R_drewN | apply Kd.R_drew)); exact HO274.out⟩, ⟨by repeat (first | (with_reducible first | exact HB.out | apply below_alloc | apply pw_below_drewN | apply below_drew1) | exact HB.out)⟩⟩
          ·rw [if_neg c13] at H
           exact absurd H (by simp)
         ·rw [if_neg c12] at H
          have c12b0 : (((rd_T140 l0 x22_2).f1) == a1) = false := beq_eq_false_iff_ne.mpr c12
          have c12b1 : (((rd_T140 l0 x22_2).f1) != a1) = true := bne_iff_ne.mpr c12
          have H' := Aside0.mk H
          clear H
          have p271 : 0 ≤ (x22_2 : Int) := of_decide_eq_true kz10_4
          have q271 : x22_2 < (l0.length : Int) := of_decide_eq_true kz10_4
          obtain ⟨ad271, e271, hx271_0, hx271_1, hx271_2, hx271_3, hx271_4, hx271_5, hx271_6⟩ := at_T140 HR0.out x22_2 p271 q271
          cases e271
          replace hx271_0 := (HB.out.cell (World.block_lt_of_cell? w _ hx271_0)).trans hx271_0
          replace hx271_1 := (HB.out.cell (World.block_lt_of_cell? w _ hx271_1)).trans hx271_1
          replace hx271_2 := (HB.out.cell (World.block_lt_of_cell? w _ hx271_2)).trans hx271_2
          replace hx271_3 := (HB.out.cell (World.block_lt_of_cell? w _ hx271_3)).trans hx271_3
          replace hx271_4 := (HB.out.cell (World.block_lt_of_cell? w _ hx271_4)).trans hx271_4
          replace hx271_5 := (HB.out.cell (World.block_lt_of_cell? w _ hx271_5)).trans hx271_5
          replace hx271_6 := (HB.out.cell (World.block_lt_of_cell? w _ hx271_6)).trans hx271_6
          replace p271 := eq_true p271
          replace q271 := eq_true q271
          go_wp2
          go_roundg k2
          case measure => have := HJ2.out; have := HK2.out; omega
          case rel => exact ⟨(x5_2), (wrap64 (x22_2 + 1)), kz10_6, H', ⟨by have := HJ2.out; have := HK2.out; omega⟩, ⟨by (with_reducible repeat (first | apply Kd.R_alloc | apply Kd.R_drewN | apply Kd.R_drew)); exact HO_5.out⟩, ⟨by repeat (first | (with_reducible first | exact HB.out | apply below_alloc | apply pw_below_drewN | apply below_drew1) | exact HB.out)⟩⟩
        ·rw [if_neg c11] at H
         exact absurd H (by simp)
       ·rw [if_neg c10] at H
        exact absurd H (by simp)
      ·rw [if_neg c9] at H
       have c9b0 : decide (x22_2 < (l0.length : Int)) = false := decide_eq_false c9
       clear c9
       obtain rfl := Option.some.inj H
       go_wp2
       go_ret
       exact ⟨_, by first | rfl | (simp [errW_none, errW_some] <;> rfl) | (simp [*, errW_none, errW_some] <;> rfl), by (with_reducible repeat (first | apply Kd.R_alloc | apply Kd.R_drewN | apply Kd.R_drew)); exact HO_5.out, by repeat (first | (with_reducible first | exact HB.out | apply below_alloc | apply pw_below_drewN | apply below_drew1) | exact HB.out)⟩

/-! ### tumbrelref09_byDefault: function 94 -/
mutual
def tumbrelref09_byDefault.l0 : Nat → List (S140) → Int → List Int → List Int → Int → Int → Option (List Int)
 | 0, _, _, _, _, _, _ => none
 | k + 1, x0, x1, x5, x6, x14, x15 => if x15 < x14 then (if 0 ≤ x1 then (if x1 < (x0.length : Int) then (if (rd_T140 x0 x1).f4 = true then (if 0 ≤ x15 then (if x15 < (x6.length : Int) then ((tumbrelref09_byDefault.f k x0 (rd x6 x15)).bind fun t283 => (if x5.length + t283.length < 17592186044416 then (tumbrelref09_byDefault.l0 k x0 x1 (x5 ++ t283) x6 x14 (wrap64 (x15 + 1))) else (none))) else (none)) else (none)) else (if x15 = 0 then (if 0 ≤ x15 then (if x15 < (x6.length : Int) then ((tumbrelref09_byDefault.f k x0 (rd x6 x15)).bind fun t290 => (if x5.length + t290.length < 17592186044416 then (tumbrelref09_byDefault.l0 k x0 x1 (x5 ++ t290) x6 x14 (wrap64 (x15 + 1))) else (none))) else (none)) else (none)) else (tumbrelref09_byDefault.l0 k x0 x1 x5 x6 x14 (wrap64 (x15 + 1))))) else (none)) else (none)) else (some x5)
def tumbrelref09_byDefault.f : Nat → List (S140) → Int → Option (List Int)
 | 0, _, _ => none
 | k + 1, l0, a1 => (tumbrelref09_Inner.f k l0 a1).bind fun t278 => (tumbrelref09_byDefault.l0 k l0 a1 (([a1] : List Int)) t278 (t278.length : Int) 0)
end
theorem tumbrelref09_byDefault.mono_l : ∀ k, (∀ y0 y1, LeO (tumbrelref09_byDefault.f k y0 y1) (tumbrelref09_byDefault.f (k + 1) y0 y1)) ∧ (∀ y0 y1 y2 y3 y4 y5, LeO (tumbrelref09_byDefault.l0 k y0 y1 y2 y3 y4 y5) (tumbrelref09_byDefault.l0 (k + 1) y0 y1 y2 y3 y4 y5))
 | 0 => ⟨fun _ _ r h => by simp [tumbrelref09_byDefault.f] at h, fun _ _ _ _ _ _ r h => by simp [tumbrelref09_byDefault.l0] at h⟩
 | k + 1 => by
  obtain ⟨ih0, ih1⟩ := tumbrelref09_byDefault.mono_l k
  refine ⟨?_, ?_⟩
  ·intro y0 y1
   unfold tumbrelref09_byDefault.f
   repeat' first
   | (with_reducible exact ih0 _ _)
   | (with_reducible exact ih1 _ _ _ _ _ _)
   | (with_reducible exact tumbrelref09_Inner.mono _ _ _)
   | (with_reducible exact LeO.refl _)
   | (with_reducible exact LeO.none _)
   | (with_reducible refine LeO.ite ?_ ?_)
   | (with_reducible refine LeO.bind ?_ (fun _ => ?_))
   | exact ih0 _ _
   | exact ih1 _ _ _ _ _ _
   | exact tumbrelref09_Inner.mono _ _ _
   | exact LeO.none _
   | refine LeO.ite ?_ ?_
   | refine LeO.bind ?_ (fun _ => ?_)
  ·intro y0 y1 y2 y3 y4 y5
   unfold tumbrelref09_byDefault.l0
   repeat' first
   | (with_reducible exact ih0 _ _)
   | (with_reducible exact ih1 _ _ _ _ _ _)
   | (with_reducible exact tumbrelref09_Inner.mono _ _ _)
   | (with_reducible exact LeO.refl _)
   | (with_reducible exact LeO.none _)
   | (with_reducible refine LeO.ite ?_ ?_)
   | (with_reducible refine LeO.bind ?_ (fun _ => ?_))
   | exact ih0 _ _
   | exact ih1 _ _ _ _ _ _
   | exact tumbrelref09_Inner.mono _ _ _
   | exact LeO.none _
   | refine LeO.ite ?_ ?_
   | refine LeO.bind ?_ (fun _ => ?_)
theorem tumbrelref09_byDefault.mono : ∀ a0 a1 k, LeO (tumbrelref09_byDefault.f k a0 a1) (tumbrelref09_byDefault.f (k + 1) a0 a1) := by
 intro a0 a1 k
 obtain ⟨ih0, ih1⟩ := tumbrelref09_byDefault.mono_l k
 exact ih0 a0 a1
set_option maxHeartbeats 8000000 in
set_option maxRecDepth 100000 in
theorem tumbrelref09_byDefault.calls (k : Nat) : ∀ (A0 : Option Addr) (c0 : Nat) (l0 : List (S140)) (a1 : Int) (r : List Int) (w : World) (hr0 : Kd.C k140 w A0 l0.length l0) (hc0 : l0.length ≤ c0) (h : tumbrelref09_byDefault.f k l0 a1 = some r),
  Calls Try.prog 94 #[.slice A0 l0.length c0, .int .i64 a1] w fun e w' => ∃ v0_ : Value, e = .returned (v0_) ∧ Kd.R (Kd.int .i64) 3 w' w.heap.size (fun _ => True) v0_ r ∧ Below w.heap.size w w' := by
 induction k using Nat.strongRecOn with
 | _ k ih =>
 intro A0 c0 l0 a1 r w hr0 hc0 h
 cases k with
 | zero => exact absurd h (by simp [tumbrelref09_byDefault.f])
 | succ k =>
 simp only [tumbrelref09_byDefault.f] at h
 have HR0 := Aside0.mk hr0
 have HC0 := Aside0.mk hc0
 clear hr0 hc0
 have HB := Aside0.mk (Below.refl w.heap.size w)
 have H : ((tumbrelref09_Inner.f k l0 a1).bind fun t278 => (tumbrelref09_byDefault.l0 k l0 a1 (([a1] : List Int)) t278 (t278.length : Int) 0)) = some r := h
 clear h
 obtain ⟨y275, hy275⟩ : ∃ y_ : List Int, y_ = (([a1] : List Int)) := ⟨_, rfl⟩
 replace H : ((tumbrelref09_Inner.f k l0 a1).bind fun t278 => (tumbrelref09_byDefault.l0 k l0 a1 y275 t278 (t278.length : Int) 0)) = some r := by first | (rw [hy275]; with_reducible exact H) | (have H2_ := (Option.bind_some _ _).symm.trans H; rw [hy275]; with_reducible exact H2_) | (have H2_ := (Option.bind_some _ _).symm.trans H; with_reducible exact H2_) | with_reducible exact H | (rw [hy275]; exact H) | exact H
 have Ny275 := Aside0.mk hy275
 clear hy275
 replace H := Option.bind_eq_some_iff.mp H
 obtain ⟨t278, A30, H⟩ := H
 replace H : (tumbrelref09_byDefault.l0 k l0 a1 y275 t278 (t278.length : Int) 0) = some r := H
 have A3 := Aside0.mk A30
 clear A30
 have H' := Aside0.mk H
 clear H
 go_enter Try.func94, Try.ntmps94
 go_wp2_with (first | ((with_reducible refine gate_dst (N := 9) rfl ?_); refine Kd.R_lit (Kd.int .i64) _ 3 ?hg (N := 9) ?hd (xs := ([a1] : List Int)) (inner := [.int .i64 a1]) (ok := fun _ => True) (okp := fun _ => True) ?hr ?hp (fun _ hk => hk) trivial (Below.refl _ _) (Nat.le_refl _) (by simp) ?_; (case hd => rfl); (case hg => rfl); (case hr => first | (go_simp; done) | (go_simp; rfl)); (case hp => exact (Reps.one (show Kd.M (Kd.int .i64) _ _ _ a1 [.int .i64 a1] from rfl) (Reps.none _ _))); intro v276 w4 ho5 hb hg_ hnew_; clear hg_ hnew_; (first | rw [← Ny275.out] at ho5 | (simp only [Int.reduceToNat] at ho5; rw [← Ny275.out] at ho5)); have n0_ := Aside0.mk (Kd.R_lower ho5 (below_size kz10_2)); have n1_ := Aside0.mk (below_step kz10_2 hb); clear HB; have HO277 := n0_; have HB := n1_; clear n0_ n1_; clear hb ho5) | ((with_reducible refine gate_callee (f := 89) rfl ?_); refine goesL_ (some 12) rfl rfl Try.func89 (by kernel_rfl) rfl #[.slice A0 l0.length c0, .int .i64 a1] rfl kz10_1 ?_; (with_reducible refine (tumbrelref09_Inner.calls k _ _ l0 a1 t278 _ ?side1 ?side2 A3.out).mono ?_); (case side1 => repeat (first | exact (Kd.C_below HR0.out HB.out) | (with_reducible refine Kd.C_alloc ?_ _) | (with_reducible refine Kd.C_drewN ?_ _) | (with_reducible refine Kd.C_drew ?_))); (case side2 => exact HC0.out); rintro e w6 ⟨v279, rfl, ho0, hb⟩; refine ⟨_, rfl, ?_⟩; have n0_ := Aside0.mk (Kd.R_elder' (by (with_reducible repeat (first | apply Kd.R_alloc | apply Kd.R_drewN | apply Kd.R_drew)); exact HO277.out) (Kd.R_base ho0) hb); have n1_ := Aside0.mk (Kd.R_lower (Kd.R_new' ho0 (Kd.R_lt (by (with_reducible repeat (first | apply Kd.R_alloc | apply Kd.R_drewN | apply Kd.R_drew)); exact HO277.out))) (below_size kz10_2)); have n2_ := Aside0.mk (below_step kz10_2 hb); clear HO277; clear HB; have HO277 := n0_; have HO280 := n1_; have HB := n2_; clear n0_ n1_ n2_; (try clear hb); (try clear hb2); (try clear hk); (try clear hi); (try clear ho0); obtain ⟨Ao7, co7, eo7⟩ := Kd.R_slice HO280.out; subst eo7))
 go_loopg [5, 15] k (fun kq v5 v15 w' => ∃ (x5_1 : List Int) (x15_1 : Int), v15 = .int .i64 x15_1 ∧ Aside0 (tumbrelref09_byDefault.l0 kq l0 a1 x5_1 t278 (t278.length : Int) x15_1 = some r) ∧ Aside0 (kq ≤ k) ∧ Aside0 (Kd.R (Kd.int .i64) 3 w' w.heap.size (fun k_ => some k_ ≠ ((.slice Ao7 t278.length co7) : Value).ownBlock) v5 x5_1) ∧ Aside0 (Kd.R (Kd.int .i64) 3 w' w.heap.size (fun k_ => some k_ ≠ (v5 : Value).ownBlock) (.slice Ao7 t278.length co7) t278) ∧ Aside0 (Below w.heap.size w w'))
 case atStart => exact ⟨(y275), (0), kz10_6, H', ⟨Nat.le_refl _⟩, ⟨by (with_reducible repeat (first | apply Kd.R_alloc | apply Kd.R_drewN | apply Kd.R_drew)); exact Kd.R_mono HO277.out (fun _ hk => hk.2)⟩, ⟨by (with_reducible repeat (first | apply Kd.R_alloc | apply Kd.R_drewN | apply Kd.R_drew)); exact Kd.R_mono HO280.out (fun _ hk => hk.2)⟩, ⟨by repeat (first | (with_reducible first | exact HB.out | apply below_alloc | apply pw_below_drewN | apply below_drew1) | exact HB.out)⟩⟩
 case round =>
  clear H'
  try clear p2
  obtain ⟨x5_1, x15_1, rfl, HA, HK1, HO_5, HO_6, HB⟩ := hrel
  cases gk with
  | zero => exact absurd HA.out (by simp [tumbrelref09_byDefault.l0])
  | succ k1 =>
   have H := HA.out
   clear HA
   simp only [tumbrelref09_byDefault.l0] at H
   by_cases c8 : x15_1 < (t278.length : Int)
   ·rw [if_pos c8] at H
    have c8b0 : decide (x15_1 < (t278.length : Int)) = true := decide_eq_true c8
    clear c8
    by_cases c9 : 0 ≤ a1
    ·rw [if_pos c9] at H
     have c9b0 : decide (0 ≤ a1) = true := decide_eq_true c9
     clear c9
     by_cases c10 : a1 < (l0.length : Int)
     ·rw [if_pos c10] at H
      have c10b0 : decide (a1 < (l0.length : Int)) = true := decide_eq_true c10
      clear c10
      obtain ⟨bq11, hbq11⟩ : ∃ b_ : Bool, b_ = ((rd_T140 l0 a1).f4) := ⟨_, rfl⟩
      replace H : (if bq11 = true then (if 0 ≤ x15_1 then (if x15_1 < (t278.length : Int) then ((tumbrelref09_byDefault.f k1 l0 (rd t278 x15_1)).bind fun t283 => (if x5_1.length + t283.length < 17592186044416 then (tumbrelref09_byDefault.l0 k1 l0 a1 (x5_1 ++ t283) t278 (t278.length : Int) (wrap64 (x15_1 + 1))) else (none))) else (none)) else (none)) else (if x15_1 = 0 then (if 0 ≤ x15_1 then (if x15_1 < (t278.length : Int) then ((tumbrelref09_byDefault.f k1 l0 (rd t278 x15_1)).bind fun t290 => (if x5_1.length + t290.length < 17592186044416 then (tumbrelref09_byDefault.l0 k1 l0 a1 (x5_1 ++ t290) t278 (t278.length : Int) (wrap64 (x15_1 + 1))) else (none))) else (none)) else (none)) else (tumbrelref09_byDefault.l0 k1 l0 a1 x5_1 t278 (t278.length : Int) (wrap64 (x15_1 + 1))))) = some r := by rw [← hbq11] at H; exact H
      have Nbq11 := Aside0.mk hbq11
      clear hbq11
      by_cases c12 : bq11 = true
      ·subst c12
       have H1 : (if 0 ≤ x15_1 then (if x15_1 < (t278.length : Int) then ((tumbrelref09_byDefault.f k1 l0 (rd t278 x15_1)).bind fun t283 => (if x5_1.length + t283.length < 17592186044416 then (tumbrelref09_byDefault.l0 k1 l0 a1 (x5_1 ++ t283) t278 (t278.length : Int) (wrap64 (x15_1 + 1))) else (none))) else (none)) else (none)) = some r := by rw [if_pos rfl] at H; exact H
       clear H
       have H := H1
       clear H1
       by_cases c13 : 0 ≤ x15_1
       ·rw [if_pos c13] at H
        have c13b0 : decide (0 ≤ x15_1) = true := decide_eq_true c13
        clear c13
        by_cases c14 : x15_1 < (t278.length : Int)
        ·rw [if_pos c14] at H
         have c14b0 : decide (x15_1 < (t278.length : Int)) = true := decide_eq_true c14
         clear c14
         replace H := Option.bind_eq_some_iff.mp H
         obtain ⟨t283, A150, H⟩ := H
         replace H : (if x5_1.length + t283.length < 17592186044416 then (tumbrelref09_byDefault.l0 k1 l0 a1 (x5_1 ++ t283) t278 (t278.length : Int) (wrap64 (x15_1 + 1))) else (none)) = some r := H
         have A15 := Aside0.mk A150
         clear A150
         by_cases c16 : x5_1.length + t283.length < 17592186044416
         ·rw [if_pos c16] at H
          have LMc16 := Aside0.mk c16
          clear c16
          obtain ⟨y286, hy286⟩ : ∃ y_ : List Int, y_ = (x5_1 ++ t283) := ⟨_, rfl⟩
          replace H : (tumbrelref09_byDefault.l0 k1 l0 a1 y286 t278 (t278.length : Int) (wrap64 (x15_1 + 1))) = some r := by first | (rw [hy286]; with_reducible exact H) | (have H2_ := (Option.bind_some _ _).symm.trans H; rw [hy286]; with_reducible exact H2_) | (have H2_ := (Option.bind_some _ _).symm.trans H; with_reducible exact H2_) | with_reducible exact H | (rw [hy286]; exact H) | exact H
          have Ny286 := Aside0.mk hy286
          clear hy286
          have H' := Aside0.mk H
          clear H
          have p281 : 0 ≤ (a1 : Int) := of_decide_eq_true kz10_4
          have q281 : a1 < (l0.length : Int) := of_decide_eq_true kz10_4
          obtain ⟨ad281, e281, hx281_0, hx281_1, hx281_2, hx281_3, hx281_4, hx281_5, hx281_6⟩ := at_T140 HR0.out a1 p281 q281
          (try rw [← Nbq11.out] at hx281_4)
          (try rw [← Nbq11.out] at hx281_5)
          (try rw [← Nbq11.out] at hx281_6)
          cases e281
          replace hx281_0 := (HB.out.cell (World.block_lt_of_cell? w _ hx281_0)).trans hx281_0
          replace hx281_1 := (HB.out.cell (World.block_lt_of_cell? w _ hx281_1)).trans hx281_1
          replace hx281_2 := (HB.out.cell (World.block_lt_of_cell? w _ hx281_2)).trans hx281_2
          replace hx281_3 := (HB.out.cell (World.block_lt_of_cell? w _ hx281_3)).trans hx281_3
          replace hx281_4 := (HB.out.cell (World.block_lt_of_cell? w _ hx281_4)).trans hx281_4
          replace hx281_5 := (HB.out.cell (World.block_lt_of_cell? w _ hx281_5)).trans hx281_5
          replace hx281_6 := (HB.out.cell (World.block_lt_of_cell? w _ hx281_6)).trans hx281_6
          replace p281 := eq_true p281
          replace q281 := eq_true q281
          have p282 : 0 ≤ (x15_1 : Int) := of_decide_eq_true kz10_4
          have q282 : x15_1 < (t278.length : Int) := of_decide_eq_true kz10_4
          obtain ⟨ad282, e282, hx282_0⟩ := Kd.at_int (Kd.R_reads' HO_6.out).2.2 x15_1 p282 q282
          cases e282
          replace p282 := eq_true p282
          replace q282 := eq_true q282
          go_wp2_with (first | ((with_reducible refine gate_callee (f := 94) rfl ?_); refine goesL_ (some 33) rfl rfl Try.func94 (by kernel_rfl) rfl #[.slice (some ad281) l0.length c0, .int .i64 (rd t278 x15_1)] rfl kz10_1 ?_; (with_reducible refine (ih k1 (by have := HK1.out; omega) _ _ l0 (rd t278 x15_1) t283 _ ?side1 ?side2 A15.out).mono ?_); (case side1 => repeat (first | exact (Kd.C_below HR0.out HB.out) | (with_reducible refine Kd.C_alloc ?_ _) | (with_reducible refine Kd.C_drewN ?_ _) | (with_reducible refine Kd.C_drew ?_))); (case side2 => exact HC0.out); rintro e w17 ⟨v284, rfl, ho0, hb⟩; refine ⟨_, rfl, ?_⟩; have n0_ := Aside0.mk (Kd.R_elder' kz10_3 (Kd.R_base ho0) hb); have n1_ := Aside0.mk (Kd.R_elder' kz10_5 (Kd.R_base ho0) hb); have n2_ := Aside0.mk (Kd.R_lower (Kd.R_new' (Kd.R_new' ho0 (Kd.R_lt kz10_3)) (Kd.R_lt kz10_5)) (below_size kz10_2)); have n3_ := Aside0.mk (below_step kz10_2 hb); clear HO_5; clear HO_6; clear HB; have HO_5 := n0_; have HO_6 := n1_; have HO285 := n2_; have HB := n3_; clear n0_ n1_ n2_ n3_; (try clear hb); (try clear hb2); (try clear hk); (try clear hi); (try clear ho0); obtain ⟨Ao19, co19, eo19⟩ := Kd.R_slice HO285.out; subst eo19) | ((with_reducible refine gate_builtin (b := .append) (xs := #[.tmp 27, .tmp 33]) rfl ?_); at_builtin; refine Kd.R_append_rows (Kd.int .i64) (w0 := w) w.heap.size rfl (.tmp 27) (.tmp 33) 65 3 (.int .i64 0) 8 rfl Try.underlying65 info3 rfl (by decide) (by omega) u5 x5_1 t283 _ _ _ (fun k_ => some k_ ≠ (.slice (some ad282) t278.length co7 : Value).ownBlock ∧ some k_ ≠ (.slice Ao19 t283.length co19 : Value).ownBlock) (fun _ => False) rfl rfl ?aO ?aR (fun _ _ h => h) (fun _ h => h.elim) ?aF ?aB ?aS ?aL ?_; (case aR => repeat (first | exact (Kd.R_reads' HO285.out).2.2 | (with_reducible refine Kd.C_alloc ?_ _) | (with_reducible refine Kd.C_drewN ?_ _) | (with_reducible refine Kd.C_drew ?_))); (case aB => exact kz10_2); (case aF => exact (fun k_ hk => ⟨Kd.fresh' (Kd.R_lt kz10_5) k_ hk, Kd.fresh' (Kd.R_lt (by (with_reducible repeat (first | apply Kd.R_alloc | apply Kd.R_drewN | apply Kd.R_drew)); exact HO285.out)) k_ hk⟩)); (case aO => exact kz10_3); (case aS => exact (below_size kz10_2)); (case aL => have := LMc16.out; omega); intro v287 w18 ho hb hg hat; rw [← Ny286.out] at ho; have n0_ := Aside0.mk (Kd.R_after (ok := (fun k_ => some k_ ≠ (.slice Ao19 t283.length co19 : Value).ownBlock)) (by (with_reducible repeat (first | apply Kd.R_alloc | apply Kd.R_drewN | apply Kd.R_drew)); exact Kd.R_mono HO_6.out (fun _ hk => ⟨hk.2, hk.1⟩)) hg hat); have n1_ := Aside0.mk (Kd.R_after (ok := (fun k_ => some k_ ≠ (.slice (some ad282) t278.length co7 : Value).ownBlock)) (by (with_reducible repeat (first | apply Kd.R_alloc | apply Kd.R_drewN | apply Kd.R_drew)); exact Kd.R_mono HO285.out (fun _ hk => ⟨hk.2, hk.1.2⟩)) hg hat); have n2_ := Aside0.mk (hb); have n3_ := Aside0.mk (ho); clear HO_6; clear HO285; clear HB; clear HO_5; have HO_6 := n0_; have HO285 := n1_; have HB := n2_; have HO288 := n3_; clear n0_ n1_ n2_ n3_; clear ho hb hg hat))
          go_roundg k1
          case measure => have := HK1.out; omega
          case rel => exact ⟨(y286), (wrap64 (x15_1 + 1)), kz10_6, H', ⟨by have := HK1.out; omega⟩, ⟨by (with_reducible repeat (first | apply Kd.R_alloc | apply Kd.R_drewN | apply Kd.R_drew)); exact Kd.R_mono HO288.out (fun _ hk => hk.1)⟩, ⟨by (with_reducible repeat (first | apply Kd.R_alloc | apply Kd.R_drewN | apply Kd.R_drew)); exact Kd.R_mono HO_6.out (fun _ hk => hk.2)⟩, ⟨by repeat (first | (with_reducible first | exact HB.out | apply below_alloc | apply pw_below_drewN | apply below_drew1) | exact HB.out)⟩⟩
         ·rw [if_neg c16] at H
          exact absurd H (by simp)
        ·rw [if_neg c14] at H
         exact absurd H (by simp)
       ·rw [if_neg c13] at H
        exact absurd H (by simp)
      ·replace c12 := Bool.eq_false_iff.mpr c12
       subst c12
       have H1 : (if x15_1 = 0 then (if 0 ≤ x15_1 then (if x15_1 < (t278.length : Int) then ((tumbrelref09_byDefault.f k1 l0 (rd t278 x15_1)).bind fun t290 => (if x5_1.length + t290.length < 17592186044416 then (tumbrelref09_byDefault.l0 k1 l0 a1 (x5_1 ++ t290) t278 (t278.length : Int) (wrap64 (x15_1 + 1))) else (none))) else (none)) else (none)) else (tumbrelref09_byDefault.l0 k1 l0 a1 x5_1 t278 (t278.length : Int) (wrap64 (x15_1 + 1)))) = some r := by rw [if_neg (show ¬ (false = true) by decide)] at H; exact H
       clear H
       have H := H1
       clear H1
       by_cases c20 : x15_1 = 0
       ·rw [if_pos c20] at H
        have c20b0 : (x15_1 == 0) = true := beq_iff_eq.mpr c20
        have c20b1 : (x15_1 != 0) = false := bne_eq_false_iff_eq.mpr c20
        clear c20
        by_cases c21 : 0 ≤ x15_1
        ·rw [if_pos c21] at H
         have c21b0 : decide (0 ≤ x15_1) = true := decide_eq_true c21
         clear c21
         by_cases c22 : x15_1 < (t278.length : Int)
         ·rw [if_pos c22] at H
          have c22b0 : decide (x15_1 < (t278.length : Int)) = true := decide_eq_true c22
          clear c22
          replace H := Option.bind_eq_some_iff.mp H
          obtain ⟨t290, A230, H⟩ := H
          replace H : (if x5_1.length + t290.length < 17592186044416 then (tumbrelref09_byDefault.l0 k1 l0 a1 (x5_1 ++ t290) t278 (t278.length : Int) (wrap64 (x15_1 + 1))) else (none)) = some r := H
          have A23 := Aside0.mk A230
          clear A230
          by_cases c24 : x5_1.length + t290.length < 17592186044416
          ·rw [if_pos c24] at H
           have LMc24 := Aside0.mk c24
           clear c24
           obtain ⟨y293, hy293⟩ : ∃ y_ : List Int, y_ = (x5_1 ++ t290) := ⟨_, rfl⟩
           replace H : (tumbrelref09_byDefault.l0 k1 l0 a1 y293 t278 (t278.length : Int) (wrap64 (x15_1 + 1))) = some r := by first | (rw [hy293]; with_reducible exact H) | (have H2_ := (Option.bind_some _ _).symm.trans H; rw [hy293]; with_reducible exact H2_) | (have H2_ := (Option.bind_some _ _).symm.trans H; with_reducible exact H2_) | with_reducible exact H | (rw [hy293]; exact H) | exact H
           have Ny293 := Aside0.mk hy293
           clear hy293
           have H' := Aside0.mk H
           clear H
           have p281 : 0 ≤ (a1 : Int) := of_decide_eq_true kz10_4
           have q281 : a1 < (l0.length : Int) := of_decide_eq_true kz10_4
           obtain ⟨ad281, e281, hx281_0, hx281_1, hx281_2, hx281_3, hx281_4, hx281_5, hx281_6⟩ := at_T140 HR0.out a1 p281 q281
           (try rw [← Nbq11.out] at hx281_4)
           (try rw [← Nbq11.out] at hx281_5)
           (try rw [← Nbq11.out] at hx281_6)
           cases e281
           replace hx281_0 := (HB.out.cell (World.block_lt_of_cell? w _ hx281_0)).trans hx281_0
           replace hx281_1 := (HB.out.cell (World.block_lt_of_cell? w _ hx281_1)).trans hx281_1
           replace hx281_2 := (HB.out.cell (World.block_lt_of_cell? w _ hx281_2)).trans hx281_2
           replace hx281_3 := (HB.out.cell (World.block_lt_of_cell? w _ hx281_3)).trans hx281_3
           replace hx281_4 := (HB.out.cell (World.block_lt_of_cell? w _ hx281_4)).trans hx281_4
           replace hx281_5 := (HB.out.cell (World.block_lt_of_cell? w _ hx281_5)).trans hx281_5
           replace hx281_6 := (HB.out.cell (World.block_lt_of_cell? w _ hx281_6)).trans hx281_6
           replace p281 := eq_true p281
           replace q281 := eq_true q281
           have p289 : 0 ≤ (x15_1 : Int) := of_decide_eq_true kz10_4
           have q289 : x15_1 < (t278.length : Int) := of_decide_eq_true kz10_4
           obtain ⟨ad289, e289, hx289_0⟩ := Kd.at_int (Kd.R_reads' HO_6.out).2.2 x15_1 p289 q289
           cases e289
           replace p289 := eq_true p289
           replace q289 := eq_true q289
           go_wp2_with (first | ((with_reducible refine gate_callee (f := 94) rfl ?_); refine goesL_ (some 33) rfl rfl Try.func94 (by kernel_rfl) rfl #[.slice (some ad281) l0.length c0, .int .i64 (rd t278 x15_1)] rfl kz10_1 ?_; (with_reducible refine (ih k1 (by have := HK1.out; omega) _ _ l0 (rd t278 x15_1) t290 _ ?side1 ?side2 A23.out).mono ?_); (case side1 => repeat (first | exact (Kd.C_below HR0.out HB.out) | (with_reducible refine Kd.C_alloc ?_ _) | (with_reducible refine Kd.C_drewN ?_ _) | (with_reducible refine Kd.C_drew ?_))); (case side2 => exact HC0.out); rintro e w25 ⟨v291, rfl, ho0, hb⟩; refine ⟨_, rfl, ?_⟩; have n0_ := Aside0.mk (Kd.R_elder' kz10_3 (Kd.R_base ho0) hb); have n1_ := Aside0.mk (Kd.R_elder' kz10_5 (Kd.R_base ho0) hb); have n2_ := Aside0.mk (Kd.R_lower (Kd.R_new' (Kd.R_new' ho0 (Kd.R_lt kz10_3)) (Kd.R_lt kz10_5)) (below_size kz10_2)); have n3_ := Aside0.mk (below_step kz10_2 hb); clear HO_5; clear HO_6; clear HB; have HO_5 := n0_; have HO_6 := n1_; have HO292 := n2_; have HB := n3_; clear n0_ n1_ n2_ n3_; (try clear hb); (try clear hb2); (try clear hk); (try clear hi); (try clear ho0); obtain ⟨Ao27, co27, eo27⟩ := Kd.R_slice HO292.out; subst eo27) | ((with_reducible refine gate_builtin (b := .append) (xs := #[.tmp 27, .tmp 33]) rfl ?_); at_builtin; refine Kd.R_append_rows (Kd.int .i64) (w0 := w) w.heap.size rfl (.tmp 27) (.tmp 33) 65 3 (.int .i64 0) 8 rfl Try.underlying65 info3 rfl (by decide) (by omega) u5 x5_1 t290 _ _ _ (fun k_ => some k_ ≠ (.slice (some ad289) t278.length co7 : Value).ownBlock ∧ some k_ ≠ (.slice Ao27 t290.length co27 : Value).ownBlock) (fun _ => False) rfl rfl ?aO ?aR (fun _ _ h => h) (fun _ h => h.elim) ?aF ?aB ?aS ?aL ?_; (case aR => repeat (first | exact (Kd.R_reads' HO292.out).2.2 | (with_reducible refine Kd.C_alloc ?_ _) | (with_reducible refine Kd.C_drewN ?_ _) | (with_reducible refine Kd.C_drew ?_))); (case aB => exact kz10_2); (case aF => exact (fun k_ hk => ⟨Kd.fresh' (Kd.R_lt kz10_5) k_ hk, Kd.fresh' (Kd.R_lt (by (with_reducible repeat (first | apply Kd.R_alloc | apply Kd.R_drewN | apply Kd.R_drew)); exact HO292.out)) k_ hk⟩)); (case aO => exact kz10_3); (case aS => exact (below_size kz10_2)); (case aL => have := LMc24.out; omega); intro v294 w26 ho hb hg hat; rw [← Ny293.out] at ho; have n0_ := Aside0.mk (Kd.R_after (ok := (fun k_ => some k_ ≠ (.slice Ao27 t290.length co27 : Value).ownBlock)) (by (with_reducible repeat (first | apply Kd.R_alloc | apply Kd.R_drewN | apply Kd.R_drew)); exact Kd.R_mono HO_6.out (fun _ hk => ⟨hk.2, hk.1⟩)) hg hat); have n1_ := Aside0.mk (Kd.R_after (ok := (fun k_ => some k_ ≠ (.slice (some ad289) t278.length co7 : Value).ownBlock)) (by (with_reducible repeat (first | apply Kd.R_alloc | apply Kd.R_drewN | apply Kd.R_drew)); exact Kd.R_mono HO292.out (fun _ hk => ⟨hk.2, hk.1.2⟩)) hg hat); have n2_ := Aside0.mk (hb); have n3_ := Aside0.mk (ho); clear HO_6; clear HO292; clear HB; clear HO_5; have HO_6 := n0_; have HO292 := n1_; have HB := n2_; have HO295 := n3_; clear n0_ n1_ n2_ n3_; clear ho hb hg hat))
           go_roundg k1
           case measure => have := HK1.out; omega
           case rel => exact ⟨(y293), (wrap64 (x15_1 + 1)), kz10_6, H', ⟨by have := HK1.out; omega⟩, ⟨by (with_reducible repeat (first | apply Kd.R_alloc | apply Kd.R_drewN | apply Kd.R_drew)); exact Kd.R_mono HO295.out (fun _ hk => hk.1)⟩, ⟨by (with_reducible repeat (first | apply Kd.R_alloc | apply Kd.R_drewN | apply Kd.R_drew)); exact Kd.R_mono HO_6.out (fun _ hk => hk.2)⟩, ⟨by repeat (first | (with_reducible first | exact HB.out | apply below_alloc | apply pw_below_drewN | apply below_drew1) | exact HB.out)⟩⟩
          ·rw [if_neg c24] at H
           exact absurd H (by simp)
         ·rw [if_neg c22] at H
          exact absurd H (by simp)
        ·rw [if_neg c21] at H
         exact absurd H (by simp)
       ·rw [if_neg c20] at H
        have c20b0 : (x15_1 == 0) = false := beq_eq_false_iff_ne.mpr c20
        have c20b1 : (x15_1 != 0) = true := bne_iff_ne.mpr c20
        have H' := Aside0.mk H
        clear H
        have p281 : 0 ≤ (a1 : Int) := of_decide_eq_true kz10_4
        have q281 : a1 < (l0.length : Int) := of_decide_eq_true kz10_4
        obtain ⟨ad281, e281, hx281_0, hx281_1, hx281_2, hx281_3, hx281_4, hx281_5, hx281_6⟩ := at_T140 HR0.out a1 p281 q281
        (try rw [← Nbq11.out] at hx281_4)
        (try rw [← Nbq11.out] at hx281_5)
        (try rw [← Nbq11.out] at hx281_6)
        cases e281
        replace hx281_0 := (HB.out.cell (World.block_lt_of_cell? w _ hx281_0)).trans hx281_0
        replace hx281_1 := (HB.out.cell (World.block_lt_of_cell? w _ hx281_1)).trans hx281_1
        replace hx281_2 := (HB.out.cell (World.block_lt_of_cell? w _ hx281_2)).trans hx281_2
        replace hx281_3 := (HB.out.cell (World.block_lt_of_cell? w _ hx281_3)).trans hx281_3
        replace hx281_4 := (HB.out.cell (World.block_lt_of_cell? w _ hx281_4)).trans hx281_4
        replace hx281_5 := (HB.out.cell (World.block_lt_of_cell? w _ hx281_5)).trans hx281_5
        replace hx281_6 := (HB.out.cell (World.block_lt_of_cell? w _ hx281_6)).trans hx281_6
        replace p281 := eq_true p281
        replace q281 := eq_true q281
        go_wp2
        go_roundg k1
        case measure => have := HK1.out; omega
        case rel => exact ⟨(x5_1), (wrap64 (x15_1 + 1)), kz10_6, H', ⟨by have := HK1.out; omega⟩, ⟨by (with_reducible repeat (first | apply Kd.R_alloc | apply Kd.R_drewN | apply Kd.R_drew)); exact HO_5.out⟩, ⟨by (with_reducible repeat (first | apply Kd.R_alloc | apply Kd.R_drewN | apply Kd.R_drew)); exact HO_6.out⟩, ⟨by repeat (first | (with_reducible first | exact HB.out | apply below_alloc | apply pw_below_drewN | apply below_drew1) | exact HB.out)⟩⟩
     ·rw [if_neg c10] at H
      exact absurd H (by simp)
    ·rw [if_neg c9] at H
     exact absurd H (by simp)
   ·rw [if_neg c8] at H
    have c8b0 : decide (x15_1 < (t278.length : Int)) = false := decide_eq_false c8
    clear c8
    obtain rfl := Option.some.inj H
    go_wp2
    go_ret
    exact ⟨_, by first | rfl | (simp [errW_none, errW_some] <;> rfl) | (simp [*, errW_none, errW_some] <;> rfl), by (with_reducible repeat (first | apply Kd.R_alloc | apply Kd.R_drewN | apply Kd.R_drew)); exact Kd.R_mono HO_5.out (fun _ hk => trivial), by repeat (first | (with_reducible first | exact HB.out | apply below_alloc | apply pw_below_drewN | apply below_drew1) | exact HB.out)⟩

end Go.Proofs.Ytjghlomkimoeoaa.PConfigMoves
