-- Written by fprint.py (wip), by way of the printer's functions; where they are turned, by texts of mine.
import Derived.Test.YtjghlomkimoeoaaPConfigMovesx0
import Derived.Test.YtjghlomkimoeoaaPConfigMovesx8
import Derived.Test.YtjghlomkimoeoaaPConfigMovesx9
import Derived.Test.YtjghlomkimoeoaaPConfigMovesx10
import Derived.Test.YtjghlomkimoeoaaPConfigMovesx11
namespace Go.Proofs.Ytjghlomkimoeoaa.PConfigMoves
open Go.RowKit Go.Proofs.YtjghlomkimoeoaaW.PrintWords Go.Proofs.YtjghlomkimoeoaaW.PrintLast Go.Proofs.YtjghlomkimoeoaaW.PrintMore
attribute [local go_sem] max2_int min2_int max_two min_two max_three min_three max_four min_four   -- for this text's walks alone
set_option linter.unusedVariables false
set_option linter.unusedSimpArgs false
theorem kz12_1 {p_ : Prop} (h_ : p_ := by (try simp only [List.map_toArray, List.map_cons, List.map_nil]); first | done | rfl | (simp only [List.length_drop, List.length_take]; rfl)) : p_ := h_
theorem kz12_2 {p_ : Prop} (h_ : p_ := by repeat (first | (with_reducible first | exact HB.out | apply below_alloc | apply pw_below_drewN | apply below_drew1) | exact HB.out)) : p_ := h_
theorem kz12_3 {p_ : Prop} (h_ : p_ := by first | rfl | (simp; done) | (simp [*]; done)) : p_ := h_

/-! ### tumbrelref09_Leave: function 54 -/
mutual
def tumbrelref09_Leave.j0 : Nat → List (S140) → List Int → Int → Bool → Option (List Int)
 | 0, _, _, _, _ => none
 | k + 1, x0, x1, x2, x21 => if x21 = true then (some ([] : List Int)) else (tumbrelref09_Leave.l0 k x0 x1 x2 ([] : List Int) (wrap64 ((x0.length : Int) - 1)))
def tumbrelref09_Leave.l0 : Nat → List (S140) → List Int → Int → List Int → Int → Option (List Int)
 | 0, _, _, _, _, _ => none
 | k + 1, x0, x1, x2, x7, x8 => if x8 ≥ 0 then (if x8 = x2 then (tumbrelref09_Leave.l0 k x0 x1 x2 x7 (wrap64 (x8 - 1))) else ((tumbrelref09_has.f k x1 x8).bind fun t333 => (if t333 = true then ((tumbrelref09_Within.f k x0 x8 x2).bind fun t334 => (if t334 = true then (if x7.length < 17592186044416 then (tumbrelref09_Leave.l0 k x0 x1 x2 (x7 ++ [x8]) (wrap64 (x8 - 1))) else (none)) else (tumbrelref09_Leave.l0 k x0 x1 x2 x7 (wrap64 (x8 - 1))))) else (tumbrelref09_Leave.l0 k x0 x1 x2 x7 (wrap64 (x8 - 1)))))) else (some x7)
end
def tumbrelref09_Leave.f (k : Nat) (l0 : List (S140)) (l1 : List Int) (a2 : Int) : Option (List Int) := (tumbrelref09_Formed.f k l0).bind fun t331 => (if t331 = true then (if a2 = (-1) then (tumbrelref09_Leave.j0 k l0 l1 a2 false) else ((tumbrelref09_state.f l0 a2).bind fun t332 => (tumbrelref09_Leave.j0 k l0 l1 a2 (!t332)))) else (tumbrelref09_Leave.j0 k l0 l1 a2 true))
theorem tumbrelref09_Leave.mono_l : ∀ k, (∀ y0 y1 y2 y3, LeO (tumbrelref09_Leave.j0 k y0 y1 y2 y3) (tumbrelref09_Leave.j0 (k + 1) y0 y1 y2 y3)) ∧ (∀ y0 y1 y2 y3 y4, LeO (tumbrelref09_Leave.l0 k y0 y1 y2 y3 y4) (tumbrelref09_Leave.l0 (k + 1) y0 y1 y2 y3 y4))
 | 0 => ⟨fun _ _ _ _ r h => by simp [tumbrelref09_Leave.j0] at h, fun _ _ _ _ _ r h => by simp [tumbrelref09_Leave.l0] at h⟩
 | k + 1 => by
  obtain ⟨ih0, ih1⟩ := tumbrelref09_Leave.mono_l k
  refine ⟨?_, ?_⟩
  ·intro y0 y1 y2 y3
   unfold tumbrelref09_Leave.j0
   repeat' first
   | (with_reducible exact ih0 _ _ _ _)
   | (with_reducible exact ih1 _ _ _ _ _)
   | (with_reducible exact tumbrelref09_Formed.mono _ _)
   | (with_reducible exact tumbrelref09_Within.mono _ _ _ _)
   | (with_reducible exact tumbrelref09_has.mono _ _ _)
   | (with_reducible exact LeO.refl _)
   | (with_reducible exact LeO.none _)
   | (with_reducible refine LeO.ite ?_ ?_)
   | (with_reducible refine LeO.bind ?_ (fun _ => ?_))
   | exact ih0 _ _ _ _
   | exact ih1 _ _ _ _ _
   | exact tumbrelref09_Formed.mono _ _
   | exact tumbrelref09_Within.mono _ _ _ _
   | exact tumbrelref09_has.mono _ _ _
   | exact LeO.none _
   | refine LeO.ite ?_ ?_
   | refine LeO.bind ?_ (fun _ => ?_)
  ·intro y0 y1 y2 y3 y4
   unfold tumbrelref09_Leave.l0
   repeat' first
   | (with_reducible exact ih0 _ _ _ _)
   | (with_reducible exact ih1 _ _ _ _ _)
   | (with_reducible exact tumbrelref09_Formed.mono _ _)
   | (with_reducible exact tumbrelref09_Within.mono _ _ _ _)
   | (with_reducible exact tumbrelref09_has.mono _ _ _)
   | (with_reducible exact LeO.refl _)
   | (with_reducible exact LeO.none _)
   | (with_reducible refine LeO.ite ?_ ?_)
   | (with_reducible refine LeO.bind ?_ (fun _ => ?_))
   | exact ih0 _ _ _ _
   | exact ih1 _ _ _ _ _
   | exact tumbrelref09_Formed.mono _ _
   | exact tumbrelref09_Within.mono _ _ _ _
   | exact tumbrelref09_has.mono _ _ _
   | exact LeO.none _
   | refine LeO.ite ?_ ?_
   | refine LeO.bind ?_ (fun _ => ?_)
theorem tumbrelref09_Leave.mono : ∀ a0 a1 a2 k, LeO (tumbrelref09_Leave.f k a0 a1 a2) (tumbrelref09_Leave.f (k + 1) a0 a1 a2) := by
 intro a0 a1 a2 k
 obtain ⟨ih0, ih1⟩ := tumbrelref09_Leave.mono_l k
 unfold tumbrelref09_Leave.f
 repeat' first
   | (with_reducible exact ih0 _ _ _ _)
   | (with_reducible exact ih1 _ _ _ _ _)
   | (with_reducible exact tumbrelref09_Formed.mono _ _)
   | (with_reducible exact tumbrelref09_Within.mono _ _ _ _)
   | (with_reducible exact tumbrelref09_has.mono _ _ _)
   | (with_reducible exact LeO.refl _)
   | (with_reducible exact LeO.none _)
   | (with_reducible refine LeO.ite ?_ ?_)
   | (with_reducible refine LeO.bind ?_ (fun _ => ?_))
   | exact ih0 _ _ _ _
   | exact ih1 _ _ _ _ _
   | exact tumbrelref09_Formed.mono _ _
   | exact tumbrelref09_Within.mono _ _ _ _
   | exact tumbrelref09_has.mono _ _ _
   | exact LeO.none _
   | refine LeO.ite ?_ ?_
   | refine LeO.bind ?_ (fun _ => ?_)
set_option maxHeartbeats 8000000 in
set_option maxRecDepth 100000 in
theorem tumbrelref09_Leave.calls (k : Nat) (A0 : Option Addr) (c0 : Nat) (l0 : List (S140)) (A1 : Option Addr) (c1 : Nat) (l1 : List Int) (a2 : Int) (r : List Int) (w : World) (hr0 : Kd.C k140 w A0 l0.length l0) (hc0 : l0.length ≤ c0) (hr1 : Kd.C (Kd.int .i64) w A1 l1.length l1) (hc1 : l1.length ≤ c1) (h : tumbrelref09_Leave.f k l0 l1 a2 = some r) :
  Calls Try.prog 54 #[.slice A0 l0.length c0, .slice A1 l1.length c1, .int .i64 a2] w fun e w' => ∃ v0_ : Value, e = .returned (v0_) ∧ Kd.R (Kd.int .i64) 3 w' w.heap.size (fun _ => True) v0_ r ∧ Below w.heap.size w w' := by
 have HR0 := Aside0.mk hr0
 have HC0 := Aside0.mk hc0
 clear hr0 hc0
 have HR1 := Aside0.mk hr1
 have HC1 := Aside0.mk hc1
 clear hr1 hc1
 have HB := Aside0.mk (Below.refl w.heap.size w)
 have H : ((tumbrelref09_Formed.f k l0).bind fun t331 => (if t331 = true then (if a2 = (-1) then (tumbrelref09_Leave.j0 k l0 l1 a2 false) else ((tumbrelref09_state.f l0 a2).bind fun t332 => (tumbrelref09_Leave.j0 k l0 l1 a2 (!t332)))) else (tumbrelref09_Leave.j0 k l0 l1 a2 true))) = some r := h
 clear h
 have HC4 := Aside0.mk H
 clear H
 go_enter Try.func54, Try.ntmps54
 go_upto_region 1 with (fail)
 go_cut [21] (fun v21 wc => ∃ (kq : Nat) (x21_3 : Bool), v21 = .bool x21_3 ∧ Aside0 (tumbrelref09_Leave.j0 kq l0 l1 a2 x21_3 = some r) ∧ Aside0 (kq ≤ k) ∧ Aside0 (Below w.heap.size w wc))
 case first =>
  have H := HC4.out
  clear HC4
  replace H := Option.bind_eq_some_iff.mp H
  obtain ⟨t331, A50, H⟩ := H
  replace H : (if t331 = true then (if a2 = (-1) then (tumbrelref09_Leave.j0 k l0 l1 a2 false) else ((tumbrelref09_state.f l0 a2).bind fun t332 => (tumbrelref09_Leave.j0 k l0 l1 a2 (!t332)))) else (tumbrelref09_Leave.j0 k l0 l1 a2 true)) = some r := H
  have A5 := Aside0.mk A50
  clear A50
  by_cases c6 : t331 = true
  ·subst c6
   have H1 : (if a2 = (-1) then (tumbrelref09_Leave.j0 k l0 l1 a2 false) else ((tumbrelref09_state.f l0 a2).bind fun t332 => (tumbrelref09_Leave.j0 k l0 l1 a2 (!t332)))) = some r := by rw [if_pos rfl] at H; exact H
   clear H
   have H := H1
   clear H1
   by_cases c7 : a2 = (-1)
   ·rw [if_pos c7] at H
    have c7b0 : (a2 == (-1)) = true := beq_iff_eq.mpr c7
    have c7b1 : (a2 != (-1)) = false := bne_eq_false_iff_eq.mpr c7
    clear c7
    (first | rw [c7b0] | (simp only [i64_w, i32_w]; rw [c7b0]) | skip)
    have H' := Aside0.mk H
    clear H
    go_wp2_with (first | ((with_reducible refine gate_callee (f := 86) rfl ?_); refine goesL_ (some 10) rfl rfl Try.func86 (by kernel_rfl) rfl #[.slice A0 l0.length c0] rfl kz12_1 ?_; (with_reducible refine (tumbrelref09_Formed.calls k _ _ l0 true _ ?side1 ?side2 A5.out).mono ?_); (case side1 => repeat (first | exact (Kd.C_below HR0.out HB.out) | (with_reducible refine Kd.C_alloc ?_ _) | (with_reducible refine Kd.C_drewN ?_ _) | (with_reducible refine Kd.C_drew ?_))); (case side2 => exact HC0.out); rintro e w' ⟨rfl, ⟨nd, rfl⟩⟩; refine ⟨_, rfl, ?_⟩))
    go_meet
    case rel => exact ⟨_, (false), kz12_3, H', ⟨by first | omega | exact Nat.le_refl _⟩, ⟨by repeat (first | (with_reducible first | exact HB.out | apply below_alloc | apply pw_below_drewN | apply below_drew1) | exact HB.out)⟩⟩
   ·rw [if_neg c7] at H
    have c7b0 : (a2 == (-1)) = false := beq_eq_false_iff_ne.mpr c7
    have c7b1 : (a2 != (-1)) = true := bne_iff_ne.mpr c7
    (first | rw [c7b0] | (simp only [i64_w, i32_w]; rw [c7b0]) | skip)
    replace H := Option.bind_eq_some_iff.mp H
    obtain ⟨t332, A80, H⟩ := H
    replace H : (tumbrelref09_Leave.j0 k l0 l1 a2 (!t332)) = some r := H
    have A8 := Aside0.mk A80
    clear A80
    have H' := Aside0.mk H
    clear H
    go_wp2_with (first | ((with_reducible refine gate_callee (f := 86) rfl ?_); refine goesL_ (some 10) rfl rfl Try.func86 (by kernel_rfl) rfl #[.slice A0 l0.length c0] rfl kz12_1 ?_; (with_reducible refine (tumbrelref09_Formed.calls k _ _ l0 true _ ?side1 ?side2 A5.out).mono ?_); (case side1 => repeat (first | exact (Kd.C_below HR0.out HB.out) | (with_reducible refine Kd.C_alloc ?_ _) | (with_reducible refine Kd.C_drewN ?_ _) | (with_reducible refine Kd.C_drew ?_))); (case side2 => exact HC0.out); rintro e w' ⟨rfl, ⟨nd, rfl⟩⟩; refine ⟨_, rfl, ?_⟩) | (go_at_call 87; (with_reducible refine (tumbrelref09_state.calls _ _ l0 a2 t332 _ ?side1 ?side2 A8.out).mono ?_); (case side1 => repeat (first | exact (Kd.C_below HR0.out kz12_2) | (with_reducible refine Kd.C_alloc ?_ _) | (with_reducible refine Kd.C_drewN ?_ _) | (with_reducible refine Kd.C_drew ?_))); (case side2 => exact HC0.out); rintro e w' ⟨rfl, ⟨nd, rfl⟩⟩))
    go_meet
    case rel => exact ⟨_, (!t332), kz12_3, H', ⟨by first | omega | exact Nat.le_refl _⟩, ⟨by repeat (first | (with_reducible first | exact HB.out | apply below_alloc | apply pw_below_drewN | apply below_drew1) | exact HB.out)⟩⟩
  ·replace c6 := Bool.eq_false_iff.mpr c6
   subst c6
   have H1 : (tumbrelref09_Leave.j0 k l0 l1 a2 true) = some r := by rw [if_neg (show ¬ (false = true) by decide)] at H; exact H
   clear H
   have H := H1
   clear H1
   have H' := Aside0.mk H
   clear H
   go_wp2_with (first | ((with_reducible refine gate_callee (f := 86) rfl ?_); refine goesL_ (some 10) rfl rfl Try.func86 (by kernel_rfl) rfl #[.slice A0 l0.length c0] rfl kz12_1 ?_; (with_reducible refine (tumbrelref09_Formed.calls k _ _ l0 false _ ?side1 ?side2 A5.out).mono ?_); (case side1 => repeat (first | exact (Kd.C_below HR0.out HB.out) | (with_reducible refine Kd.C_alloc ?_ _) | (with_reducible refine Kd.C_drewN ?_ _) | (with_reducible refine Kd.C_drew ?_))); (case side2 => exact HC0.out); rintro e w' ⟨rfl, ⟨nd, rfl⟩⟩; refine ⟨_, rfl, ?_⟩))
   go_meet
   case rel => exact ⟨_, (true), kz12_3, H', ⟨by first | omega | exact Nat.le_refl _⟩, ⟨by repeat (first | (with_reducible first | exact HB.out | apply below_alloc | apply pw_below_drewN | apply below_drew1) | exact HB.out)⟩⟩
 case rest =>
  clear HC4
  try clear c1
  try clear p2
  try clear c5
  try clear c6
  try clear c7
  try clear c7b0
  try clear c7b1
  try clear c8
  obtain ⟨kq, x21_3, rfl, HA, HJ3, HB⟩ := hcut
  cases kq with
  | zero => exact absurd HA.out (by simp [tumbrelref09_Leave.j0])
  | succ kj3 =>
   have H := HA.out
   clear HA
   simp only [tumbrelref09_Leave.j0] at H
   by_cases c9 : x21_3 = true
   ·subst c9
    have H1 : (some ([] : List Int)) = some r := by rw [if_pos rfl] at H; exact H
    clear H
    have H := H1
    clear H1
    obtain rfl := Option.some.inj H
    go_wp2
    go_ret
    exact ⟨_, by first | rfl | (simp [errW_none, errW_some] <;> rfl) | (simp [*, errW_none, errW_some] <;> rfl), by first | exact Kd.R_nil _ _ _ _ _ | exact Kd.N_nil _ _ _ _ _ | exact Kd.V_nil _ _ _ _ _ | exact Kd.Q_nil _ _ _ _ _ | exact Kd.S_nil _ _ _ _ _, by repeat (first | (with_reducible first | exact HB.out | apply below_alloc | apply pw_below_drewN | apply below_drew1) | exact HB.out)⟩
   ·replace c9 := Bool.eq_false_iff.mpr c9
    subst c9
    have H1 : (tumbrelref09_Leave.l0 kj3 l0 l1 a2 ([] : List Int) (wrap64 ((l0.length : Int) - 1))) = some r := by rw [if_neg (show ¬ (false = true) by decide)] at H; exact H
    clear H
    have H := H1
    clear H1
    have H' := Aside0.mk H
    clear H
    go_wp2
    go_loopg [7, 8] kj3 (fun kq v7 v8 w' => ∃ (x7_2 : List Int) (x8_2 : Int), v8 = .int .i64 x8_2 ∧ Aside0 (tumbrelref09_Leave.l0 kq l0 l1 a2 x7_2 x8_2 = some r) ∧ Aside0 (kq ≤ kj3) ∧ Aside0 (Kd.R (Kd.int .i64) 3 w' w.heap.size (fun _ => True) v7 x7_2) ∧ Aside0 (Below w.heap.size w w'))
    case atStart => exact ⟨(([] : List Int)), (wrap64 ((l0.length : Int) - 1)), kz12_3, H', ⟨Nat.le_refl _⟩, ⟨by first | exact Kd.R_nil _ _ _ _ _ | exact Kd.N_nil _ _ _ _ _ | exact Kd.V_nil _ _ _ _ _ | exact Kd.Q_nil _ _ _ _ _ | exact Kd.S_nil _ _ _ _ _⟩, ⟨by repeat (first | (with_reducible first | exact HB.out | apply below_alloc | apply pw_below_drewN | apply below_drew1) | exact HB.out)⟩⟩
    case round =>
     clear H'
     try clear c1
     try clear p2
     try clear c5
     try clear c6
     try clear p6
     try clear c7
     try clear c7b0
     try clear c7b1
     try clear c8
     try clear c9
     try clear p2
     obtain ⟨x7_2, x8_2, rfl, HA, HK2, HO_7, HB⟩ := hrel
     cases gk with
     | zero => exact absurd HA.out (by simp [tumbrelref09_Leave.l0])
     | succ k2 =>
      have H := HA.out
      clear HA
      simp only [tumbrelref09_Leave.l0] at H
      by_cases c10 : x8_2 ≥ 0
      ·rw [if_pos c10] at H
       have c10b0 : decide (0 ≤ x8_2) = true := decide_eq_true c10
       clear c10
       by_cases c11 : x8_2 = a2
       ·rw [if_pos c11] at H
        have c11b0 : (x8_2 == a2) = true := beq_iff_eq.mpr c11
        have c11b1 : (x8_2 != a2) = false := bne_eq_false_iff_eq.mpr c11
        clear c11
        have H' := Aside0.mk H
        clear H
        go_wp2
        go_roundg k2
        case measure => have := HJ3.out; have := HK2.out; omega
        case rel => exact ⟨(x7_2), (wrap64 (x8_2 - 1)), kz12_3, H', ⟨by have := HJ3.out; have := HK2.out; omega⟩, ⟨by (with_reducible repeat (first | apply Kd.R_alloc | apply Kd.R_drewN | apply Kd.R_drew)); exact HO_7.out⟩, ⟨by repeat (first | (with_reducible first | exact HB.out | apply below_alloc | apply pw_below_drewN | apply below_drew1) | exact HB.out)⟩⟩
       ·rw [if_neg c11] at H
        have c11b0 : (x8_2 == a2) = false := beq_eq_false_iff_ne.mpr c11
        have c11b1 : (x8_2 != a2) = true := bne_iff_ne.mpr c11
        replace H := Option.bind_eq_some_iff.mp H
        obtain ⟨t333, A120, H⟩ := H
        replace H : (if t333 = true then ((tumbrelref09_Within.f k2 l0 x8_2 a2).bind fun t334 => (if t334 = true then (if x7_2.length < 17592186044416 then (tumbrelref09_Leave.l0 k2 l0 l1 a2 (x7_2 ++ [x8_2]) (wrap64 (x8_2 - 1))) else (none)) else (tumbrelref09_Leave.l0 k2 l0 l1 a2 x7_2 (wrap64 (x8_2 - 1))))) else (tumbrelref09_Leave.l0 k2 l0 l1 a2 x7_2 (wrap64 (x8_2 - 1)))) = some r := H
        have A12 := Aside0.mk A120
        clear A120
        by_cases c13 : t333 = true
        ·subst c13
         have H1 : ((tumbrelref09_Within.f k2 l0 x8_2 a2).bind fun t334 => (if t334 = true then (if x7_2.length < 17592186044416 then (tumbrelref09_Leave.l0 k2 l0 l1 a2 (x7_2 ++ [x8_2]) (wrap64 (x8_2 - 1))) else (none)) else (tumbrelref09_Leave.l0 k2 l0 l1 a2 x7_2 (wrap64 (x8_2 - 1))))) = some r := by rw [if_pos rfl] at H; exact H
         clear H
         have H := H1
         clear H1
         replace H := Option.bind_eq_some_iff.mp H
         obtain ⟨t334, A140, H⟩ := H
         replace H : (if t334 = true then (if x7_2.length < 17592186044416 then (tumbrelref09_Leave.l0 k2 l0 l1 a2 (x7_2 ++ [x8_2]) (wrap64 (x8_2 - 1))) else (none)) else (tumbrelref09_Leave.l0 k2 l0 l1 a2 x7_2 (wrap64 (x8_2 - 1)))) = some r := H
         have A14 := Aside0.mk A140
         clear A140
         by_cases c15 : t334 = true
         ·subst c15
          have H1 : (if x7_2.length < 17592186044416 then (tumbrelref09_Leave.l0 k2 l0 l1 a2 (x7_2 ++ [x8_2]) (wrap64 (x8_2 - 1))) else (none)) = some r := by rw [if_pos rfl] at H; exact H
          clear H
          have H := H1
          clear H1
          by_cases c16 : x7_2.length < 17592186044416
          ·rw [if_pos c16] at H
           have LMc16 := Aside0.mk c16
           clear c16
           obtain ⟨y335, hy335⟩ : ∃ y_ : List Int, y_ = (x7_2 ++ [x8_2]) := ⟨_, rfl⟩
           replace H : (tumbrelref09_Leave.l0 k2 l0 l1 a2 y335 (wrap64 (x8_2 - 1))) = some r := by first | (rw [hy335]; with_reducible exact H) | (have H2_ := (Option.bind_some _ _).symm.trans H; rw [hy335]; with_reducible exact H2_) | (have H2_ := (Option.bind_some _ _).symm.trans H; with_reducible exact H2_) | with_reducible exact H | (rw [hy335]; exact H) | exact H
           have Ny335 := Aside0.mk hy335
           clear hy335
           have H' := Aside0.mk H
           clear H
           go_wp2_with (first | (go_at_call 88; (with_reducible refine (tumbrelref09_has.calls k2 _ _ l1 x8_2 true _ ?side1 ?side2 A12.out).mono ?_); (case side1 => repeat (first | exact (Kd.C_below HR1.out HB.out) | (with_reducible refine Kd.C_alloc ?_ _) | (with_reducible refine Kd.C_drewN ?_ _) | (with_reducible refine Kd.C_drew ?_))); (case side2 => exact HC1.out); rintro e w' ⟨rfl, ⟨nd, rfl⟩⟩) | (go_at_call 96; (with_reducible refine (tumbrelref09_Within.calls k2 _ _ l0 x8_2 a2 true _ ?side1 ?side2 A14.out).mono ?_); (case side1 => repeat (first | exact (Kd.C_below HR0.out kz12_2) | (with_reducible refine Kd.C_alloc ?_ _) | (with_reducible refine Kd.C_drewN ?_ _) | (with_reducible refine Kd.C_drew ?_))); (case side2 => exact HC0.out); rintro e w' ⟨rfl, ⟨nd, rfl⟩⟩) | ((with_reducible refine gate_builtin (b := .append) (xs := #[.tmp 43, .tmp 45]) rfl ?_); at_builtin; refine Kd.R_append (Kd.int .i64) (w0 := w) w.heap.size rfl (.tmp 43) (.tmp 45) 65 3 (.int .i64 0) 8 rfl Try.underlying65 info3 rfl (by decide) (by omega) u7 x7_2 x8_2 [.int .i64 x8_2] (fun _ => True) (fun _ => False) rfl rfl ?aP (fun _ hk => hk.elim) ?aF ?aO ?aB ?aS ?aL ?_; (case aP => exact rfl); (case aB => exact kz12_2); (case aF => exact (fun _ _ => trivial)); (case aO => exact (by (with_reducible repeat (first | apply Kd.R_alloc | apply Kd.R_drewN | apply Kd.R_drew)); exact HO_7.out)); (case aS => exact (below_size kz12_2)); (case aL => have := LMc16.out; omega); intro v336 w17 ho hb hg hat; rw [← Ny335.out] at ho; have n0_ := Aside0.mk (hb); have n1_ := Aside0.mk (ho); clear HB; clear HO_7; have HB := n0_; have HO337 := n1_; clear n0_ n1_; clear ho hb hg hat))
           go_roundg k2
           case measure => have := HJ3.out; have := HK2.out; omega
           case rel => exact ⟨(y335), (wrap64 (x8_2 - 1)), kz12_3, H', ⟨by have := HJ3.out; have := HK2.out; omega⟩, ⟨by (with_reducible repeat (first | apply Kd.R_alloc | apply Kd.R_drewN | apply Kd.R_drew)); exact HO337.out⟩, ⟨by repeat (first | (with_reducible first | exact HB.out | apply below_alloc | apply pw_below_drewN | apply below_drew1) | exact HB.out)⟩⟩
          ·rw [if_neg c16] at H
           exact absurd H (by simp)
         ·replace c15 := Bool.eq_false_iff.mpr c15
          subst c15
          have H1 : (tumbrelref09_Leave.l0 k2 l0 l1 a2 x7_2 (wrap64 (x8_2 - 1))) = some r := by rw [if_neg (show ¬ (false = true) by decide)] at H; exact H
          clear H
          have H := H1
          clear H1
          have H' := Aside0.mk H
          clear H
          go_wp2_with (first | (go_at_call 88; (with_reducible refine (tumbrelref09_has.calls k2 _ _ l1 x8_2 true _ ?side1 ?side2 A12.out).mono ?_); (case side1 => repeat (first | exact (Kd.C_below HR1.out HB.out) | (with_reducible refine Kd.C_alloc ?_ _) | (with_reducible refine Kd.C_drewN ?_ _) | (with_reducible refine Kd.C_drew ?_))); (case side2 => exact HC1.out); rintro e w' ⟨rfl, ⟨nd, rfl⟩⟩) | (go_at_call 96; (with_reducible refine (tumbrelref09_Within.calls k2 _ _ l0 x8_2 a2 false _ ?side1 ?side2 A14.out).mono ?_); (case side1 => repeat (first | exact (Kd.C_below HR0.out kz12_2) | (with_reducible refine Kd.C_alloc ?_ _) | (with_reducible refine Kd.C_drewN ?_ _) | (with_reducible refine Kd.C_drew ?_))); (case side2 => exact HC0.out); rintro e w' ⟨rfl, ⟨nd, rfl⟩⟩))
          go_roundg k2
          case measure => have := HJ3.out; have := HK2.out; omega
          case rel => exact ⟨(x7_2), (wrap64 (x8_2 - 1)), kz12_3, H', ⟨by have := HJ3.out; have := HK2.out; omega⟩, ⟨by (with_reducible repeat (first | apply Kd.R_alloc | apply Kd.R_drewN | apply Kd.R_drew)); exact HO_7.out⟩, ⟨by repeat (first | (with_reducible first | exact HB.out | apply below_alloc | apply pw_below_drewN | apply below_drew1) | exact HB.out)⟩⟩
        ·replace c13 := Bool.eq_false_iff.mpr c13
         subst c13
         have H1 : (tumbrelref09_Leave.l0 k2 l0 l1 a2 x7_2 (wrap64 (x8_2 - 1))) = some r := by rw [if_neg (show ¬ (false = true) by decide)] at H; exact H
         clear H
         have H := H1
         clear H1
         have H' := Aside0.mk H
         clear H
         go_wp2_with (first | (go_at_call 88; (with_reducible refine (tumbrelref09_has.calls k2 _ _ l1 x8_2 false _ ?side1 ?side2 A12.out).mono ?_); (case side1 => repeat (first | exact (Kd.C_below HR1.out HB.out) | (with_reducible refine Kd.C_alloc ?_ _) | (with_reducible refine Kd.C_drewN ?_ _) | (with_reducible refine Kd.C_drew ?_))); (case side2 => exact HC1.out); rintro e w' ⟨rfl, ⟨nd, rfl⟩⟩))
         go_roundg k2
         case measure => have := HJ3.out; have := HK2.out; omega
         case rel => exact ⟨(x7_2), (wrap64 (x8_2 - 1)), kz12_3, H', ⟨by have := HJ3.out; have := HK2.out; omega⟩, ⟨by (with_reducible repeat (first | apply Kd.R_alloc | apply Kd.R_drewN | apply Kd.R_drew)); exact HO_7.out⟩, ⟨by repeat (first | (with_reducible first | exact HB.out | apply below_alloc | apply pw_below_drewN | apply below_drew1) | exact HB.out)⟩⟩
      ·rw [if_neg c10] at H
       have c10b0 : decide (0 ≤ x8_2) = false := decide_eq_false c10
       clear c10
       obtain rfl := Option.some.inj H
       go_wp2
       go_ret
       exact ⟨_, by first | rfl | (simp [errW_none, errW_some] <;> rfl) | (simp [*, errW_none, errW_some] <;> rfl), by (with_reducible repeat (first | apply Kd.R_alloc | apply Kd.R_drewN | apply Kd.R_drew)); exact HO_7.out, by repeat (first | (with_reducible first | exact HB.out | apply below_alloc | apply pw_below_drewN | apply below_drew1) | exact HB.out)⟩

/-! ### tumbrelref09_Meet: function 98 -/
mutual
def tumbrelref09_Meet.j0 : Nat → List (S140) → Int → Int → Bool → Option (Int)
 | 0, _, _, _, _ => none
 | k + 1, x0, x1, x2, x22 => if x22 = true then (some (-1)) else (if 0 ≤ x1 then (if x1 < (x0.length : Int) then (tumbrelref09_Meet.l0 k x0 x2 ((rd_T140 x0 x1).f1)) else (none)) else (none))
def tumbrelref09_Meet.l0 : Nat → List (S140) → Int → Int → Option (Int)
 | 0, _, _, _ => none
 | k + 1, x0, x2, x7 => if x7 ≥ 0 then ((tumbrelref09_lies.f k x0 x2 x7).bind fun t342 => (if t342 = true then (some x7) else (if 0 ≤ x7 then (if x7 < (x0.length : Int) then (tumbrelref09_Meet.l0 k x0 x2 ((rd_T140 x0 x7).f1)) else (none)) else (none)))) else (some (-1))
end
def tumbrelref09_Meet.f (k : Nat) (l0 : List (S140)) (a1 : Int) (a2 : Int) : Option (Int) := (tumbrelref09_Formed.f k l0).bind fun t338 => (if t338 = true then ((tumbrelref09_state.f l0 a1).bind fun t339 => (if t339 = true then ((tumbrelref09_state.f l0 a2).bind fun t340 => (tumbrelref09_Meet.j0 k l0 a1 a2 (!t340))) else (tumbrelref09_Meet.j0 k l0 a1 a2 true))) else (tumbrelref09_Meet.j0 k l0 a1 a2 true))
theorem tumbrelref09_Meet.mono_l : ∀ k, (∀ y0 y1 y2 y3, LeO (tumbrelref09_Meet.j0 k y0 y1 y2 y3) (tumbrelref09_Meet.j0 (k + 1) y0 y1 y2 y3)) ∧ (∀ y0 y1 y2, LeO (tumbrelref09_Meet.l0 k y0 y1 y2) (tumbrelref09_Meet.l0 (k + 1) y0 y1 y2))
 | 0 => ⟨fun _ _ _ _ r h => by simp [tumbrelref09_Meet.j0] at h, fun _ _ _ r h => by simp [tumbrelref09_Meet.l0] at h⟩
 | k + 1 => by
  obtain ⟨ih0, ih1⟩ := tumbrelref09_Meet.mono_l k
  refine ⟨?_, ?_⟩
  ·intro y0 y1 y2 y3
   unfold tumbrelref09_Meet.j0
   repeat' first
   | (with_reducible exact ih0 _ _ _ _)
   | (with_reducible exact ih1 _ _ _)
   | (with_reducible exact tumbrelref09_Formed.mono _ _)
   | (with_reducible exact tumbrelref09_lies.mono _ _ _ _)
   | (with_reducible exact LeO.refl _)
   | (with_reducible exact LeO.none _)
   | (with_reducible refine LeO.ite ?_ ?_)
   | (with_reducible refine LeO.bind ?_ (fun _ => ?_))
   | exact ih0 _ _ _ _
   | exact ih1 _ _ _
   | exact tumbrelref09_Formed.mono _ _
   | exact tumbrelref09_lies.mono _ _ _ _
   | exact LeO.none _
   | refine LeO.ite ?_ ?_
   | refine LeO.bind ?_ (fun _ => ?_)
  ·intro y0 y1 y2
   unfold tumbrelref09_Meet.l0
   repeat' first
   | (with_reducible exact ih0 _ _ _ _)
   | (with_reducible exact ih1 _ _ _)
   | (with_reducible exact tumbrelref09_Formed.mono _ _)
   | (with_reducible exact tumbrelref09_lies.mono _ _ _ _)
   | (with_reducible exact LeO.refl _)
   | (with_reducible exact LeO.none _)
   | (with_reducible refine LeO.ite ?_ ?_)
   | (with_reducible refine LeO.bind ?_ (fun _ => ?_))
   | exact ih0 _ _ _ _
   | exact ih1 _ _ _
   | exact tumbrelref09_Formed.mono _ _
   | exact tumbrelref09_lies.mono _ _ _ _
   | exact LeO.none _
   | refine LeO.ite ?_ ?_
   | refine LeO.bind ?_ (fun _ => ?_)
theorem tumbrelref09_Meet.mono : ∀ a0 a1 a2 k, LeO (tumbrelref09_Meet.f k a0 a1 a2) (tumbrelref09_Meet.f (k + 1) a0 a1 a2) := by
 intro a0 a1 a2 k
 obtain ⟨ih0, ih1⟩ := tumbrelref09_Meet.mono_l k
 unfold tumbrelref09_Meet.f
 repeat' first
   | (with_reducible exact ih0 _ _ _ _)
   | (with_reducible exact ih1 _ _ _)
   | (with_reducible exact tumbrelref09_Formed.mono _ _)
   | (with_reducible exact tumbrelref09_lies.mono _ _ _ _)
   | (with_reducible exact LeO.refl _)
   | (with_reducible exact LeO.none _)
   | (with_reducible refine LeO.ite ?_ ?_)
   | (with_reducible refine LeO.bind ?_ (fun _ => ?_))
   | exact ih0 _ _ _ _
   | exact ih1 _ _ _
   | exact tumbrelref09_Formed.mono _ _
   | exact tumbrelref09_lies.mono _ _ _ _
   | exact LeO.none _
   | refine LeO.ite ?_ ?_
   | refine LeO.bind ?_ (fun _ => ?_)
set_option maxHeartbeats 8000000 in
set_option maxRecDepth 100000 in
theorem tumbrelref09_Meet.calls (k : Nat) (A0 : Option Addr) (c0 : Nat) (l0 : List (S140)) (a1 : Int) (a2 : Int) (r : Int) (w : World) (hr0 : Kd.C k140 w A0 l0.length l0) (hc0 : l0.length ≤ c0) (h : tumbrelref09_Meet.f k l0 a1 a2 = some r) :
  Calls Try.prog 98 #[.slice A0 l0.length c0, .int .i64 a1, .int .i64 a2] w fun e w' => e = .returned (.int .i64 r) ∧ Drawn0 w w' := by
 have HR0 := Aside0.mk hr0
 have HC0 := Aside0.mk hc0
 clear hr0 hc0
 have H : ((tumbrelref09_Formed.f k l0).bind fun t338 => (if t338 = true then ((tumbrelref09_state.f l0 a1).bind fun t339 => (if t339 = true then ((tumbrelref09_state.f l0 a2).bind fun t340 => (tumbrelref09_Meet.j0 k l0 a1 a2 (!t340))) else (tumbrelref09_Meet.j0 k l0 a1 a2 true))) else (tumbrelref09_Meet.j0 k l0 a1 a2 true))) = some r := h
 clear h
 have HC4 := Aside0.mk H
 clear H
 go_enter Try.func98, Try.ntmps98
 go_upto_region 1 with (fail)
 go_cut [22] (fun v22 wc => ∃ (kq : Nat) (x22_3 : Bool), v22 = .bool x22_3 ∧ Aside0 (tumbrelref09_Meet.j0 kq l0 a1 a2 x22_3 = some r) ∧ Aside0 (kq ≤ k) ∧ Drawn0 w wc)
 case first =>
  have H := HC4.out
  clear HC4
  replace H := Option.bind_eq_some_iff.mp H
  obtain ⟨t338, A50, H⟩ := H
  replace H : (if t338 = true then ((tumbrelref09_state.f l0 a1).bind fun t339 => (if t339 = true then ((tumbrelref09_state.f l0 a2).bind fun t340 => (tumbrelref09_Meet.j0 k l0 a1 a2 (!t340))) else (tumbrelref09_Meet.j0 k l0 a1 a2 true))) else (tumbrelref09_Meet.j0 k l0 a1 a2 true)) = some r := H
  have A5 := Aside0.mk A50
  clear A50
  by_cases c6 : t338 = true
  ·subst c6
   have H1 : ((tumbrelref09_state.f l0 a1).bind fun t339 => (if t339 = true then ((tumbrelref09_state.f l0 a2).bind fun t340 => (tumbrelref09_Meet.j0 k l0 a1 a2 (!t340))) else (tumbrelref09_Meet.j0 k l0 a1 a2 true))) = some r := by rw [if_pos rfl] at H; exact H
   clear H
   have H := H1
   clear H1
   replace H := Option.bind_eq_some_iff.mp H
   obtain ⟨t339, A70, H⟩ := H
   replace H : (if t339 = true then ((tumbrelref09_state.f l0 a2).bind fun t340 => (tumbrelref09_Meet.j0 k l0 a1 a2 (!t340))) else (tumbrelref09_Meet.j0 k l0 a1 a2 true)) = some r := H
   have A7 := Aside0.mk A70
   clear A70
   by_cases c8 : t339 = true
   ·subst c8
    have H1 : ((tumbrelref09_state.f l0 a2).bind fun t340 => (tumbrelref09_Meet.j0 k l0 a1 a2 (!t340))) = some r := by rw [if_pos rfl] at H; exact H
    clear H
    have H := H1
    clear H1
    replace H := Option.bind_eq_some_iff.mp H
    obtain ⟨t340, A90, H⟩ := H
    replace H : (tumbrelref09_Meet.j0 k l0 a1 a2 (!t340)) = some r := H
    have A9 := Aside0.mk A90
    clear A90
    have H' := Aside0.mk H
    clear H
    go_wp2_with (first | ((with_reducible refine gate_callee (f := 86) rfl ?_); refine goesL_ (some 9) rfl rfl Try.func86 (by kernel_rfl) rfl #[.slice A0 l0.length c0] rfl kz12_1 ?_; (with_reducible refine (tumbrelref09_Formed.calls k _ _ l0 true _ ?side1 ?side2 A5.out).mono ?_); (case side1 => repeat (first | exact HR0.out | (with_reducible refine Kd.C_alloc ?_ _) | (with_reducible refine Kd.C_drewN ?_ _) | (with_reducible refine Kd.C_drew ?_))); (case side2 => exact HC0.out); rintro e w' ⟨rfl, ⟨nd, rfl⟩⟩; refine ⟨_, rfl, ?_⟩) | (go_at_call 87; (with_reducible refine (tumbrelref09_state.calls _ _ l0 a1 true _ ?side1 ?side2 A7.out).mono ?_); (case side1 => repeat (first | exact HR0.out | (with_reducible refine Kd.C_alloc ?_ _) | (with_reducible refine Kd.C_drewN ?_ _) | (with_reducible refine Kd.C_drew ?_))); (case side2 => exact HC0.out); rintro e w' ⟨rfl, ⟨nd, rfl⟩⟩) | (go_at_call 87; (with_reducible refine (tumbrelref09_state.calls _ _ l0 a2 t340 _ ?side1 ?side2 A9.out).mono ?_); (case side1 => repeat (first | exact HR0.out | (with_reducible refine Kd.C_alloc ?_ _) | (with_reducible refine Kd.C_drewN ?_ _) | (with_reducible refine Kd.C_drew ?_))); (case side2 => exact HC0.out); rintro e w' ⟨rfl, ⟨nd, rfl⟩⟩))
    go_meet
    case rel => exact ⟨_, (!t340), kz12_3, H', ⟨by first | omega | exact Nat.le_refl _⟩, by repeat (first | exact Drawn0.refl _ | apply Drawn0.step)⟩
   ·replace c8 := Bool.eq_false_iff.mpr c8
    subst c8
    have H1 : (tumbrelref09_Meet.j0 k l0 a1 a2 true) = some r := by rw [if_neg (show ¬ (false = true) by decide)] at H; exact H
    clear H
    have H := H1
    clear H1
    have H' := Aside0.mk H
    clear H
    go_wp2_with (first | ((with_reducible refine gate_callee (f := 86) rfl ?_); refine goesL_ (some 9) rfl rfl Try.func86 (by kernel_rfl) rfl #[.slice A0 l0.length c0] rfl kz12_1 ?_; (with_reducible refine (tumbrelref09_Formed.calls k _ _ l0 true _ ?side1 ?side2 A5.out).mono ?_); (case side1 => repeat (first | exact HR0.out | (with_reducible refine Kd.C_alloc ?_ _) | (with_reducible refine Kd.C_drewN ?_ _) | (with_reducible refine Kd.C_drew ?_))); (case side2 => exact HC0.out); rintro e w' ⟨rfl, ⟨nd, rfl⟩⟩; refine ⟨_, rfl, ?_⟩) | (go_at_call 87; (with_reducible refine (tumbrelref09_state.calls _ _ l0 a1 false _ ?side1 ?side2 A7.out).mono ?_); (case side1 => repeat (first | exact HR0.out | (with_reducible refine Kd.C_alloc ?_ _) | (with_reducible refine Kd.C_drewN ?_ _) | (with_reducible refine Kd.C_drew ?_))); (case side2 => exact HC0.out); rintro e w' ⟨rfl, ⟨nd, rfl⟩⟩))
    go_meet
    case rel => exact ⟨_, (true), kz12_3, H', ⟨by first | omega | exact Nat.le_refl _⟩, by repeat (first | exact Drawn0.refl _ | apply Drawn0.step)⟩
  ·replace c6 := Bool.eq_false_iff.mpr c6
   subst c6
   have H1 : (tumbrelref09_Meet.j0 k l0 a1 a2 true) = some r := by rw [if_neg (show ¬ (false = true) by decide)] at H; exact H
   clear H
   have H := H1
   clear H1
   have H' := Aside0.mk H
   clear H
   go_wp2_with (first | ((with_reducible refine gate_callee (f := 86) rfl ?_); refine goesL_ (some 9) rfl rfl Try.func86 (by kernel_rfl) rfl #[.slice A0 l0.length c0] rfl kz12_1 ?_; (with_reducible refine (tumbrelref09_Formed.calls k _ _ l0 false _ ?side1 ?side2 A5.out).mono ?_); (case side1 => repeat (first | exact HR0.out | (with_reducible refine Kd.C_alloc ?_ _) | (with_reducible refine Kd.C_drewN ?_ _) | (with_reducible refine Kd.C_drew ?_))); (case side2 => exact HC0.out); rintro e w' ⟨rfl, ⟨nd, rfl⟩⟩; refine ⟨_, rfl, ?_⟩))
   go_meet
   case rel => exact ⟨_, (true), kz12_3, H', ⟨by first | omega | exact Nat.le_refl _⟩, by repeat (first | exact Drawn0.refl _ | apply Drawn0.step)⟩
 case rest =>
  clear HC4
  try clear p2
  try clear c6
  try clear c8
  try clear c9
  obtain ⟨kq, x22_3, rfl, HA, HJ3, ⟨mc3, rfl⟩⟩ := hcut
  cases kq with
  | zero => exact absurd HA.out (by simp [tumbrelref09_Meet.j0])
  | succ kj3 =>
   have H := HA.out
   clear HA
   simp only [tumbrelref09_Meet.j0] at H
   by_cases c10 : x22_3 = true
   ·subst c10
    have H1 : (some (-1)) = some r := by rw [if_pos rfl] at H; exact H
    clear H
    have H := H1
    clear H1
    obtain rfl := Option.some.inj H
    go_wp2
    go_ret
    exact ⟨by first | rfl | (simp; done) | (simp [*]; done), by repeat (first | exact Drawn0.refl _ | apply Drawn0.step)⟩
   ·replace c10 := Bool.eq_false_iff.mpr c10
    subst c10
    have H1 : (if 0 ≤ a1 then (if a1 < (l0.length : Int) then (tumbrelref09_Meet.l0 kj3 l0 a2 ((rd_T140 l0 a1).f1)) else (none)) else (none)) = some r := by rw [if_neg (show ¬ (false = true) by decide)] at H; exact H
    clear H
    have H := H1
    clear H1
    by_cases c11 : 0 ≤ a1
    ·rw [if_pos c11] at H
     have c11b0 : decide (0 ≤ a1) = true := decide_eq_true c11
     clear c11
     by_cases c12 : a1 < (l0.length : Int)
     ·rw [if_pos c12] at H
      have c12b0 : decide (a1 < (l0.length : Int)) = true := decide_eq_true c12
      clear c12
      have H' := Aside0.mk H
      clear H
      have p341 : 0 ≤ (a1 : Int) := of_decide_eq_true (by first | (with_reducible assumption) | assumption)
      have q341 : a1 < (l0.length : Int) := of_decide_eq_true (by first | (with_reducible assumption) | assumption)
      obtain ⟨ad341, e341, hx341_0, hx341_1, hx341_2, hx341_3, hx341_4, hx341_5, hx341_6⟩ := at_T140 HR0.out a1 p341 q341
      cases e341
      replace p341 := eq_true p341
      replace q341 := eq_true q341
      go_wp2
      go_loopg [7] kj3 (fun kq v7 w' => ∃ (x7_2 : Int), v7 = .int .i64 x7_2 ∧ Aside0 (tumbrelref09_Meet.l0 kq l0 a2 x7_2 = some r) ∧ Aside0 (kq ≤ kj3) ∧ Drawn0 w w')
      case atStart => exact ⟨((rd_T140 l0 a1).f1), kz12_3, H', ⟨Nat.le_refl _⟩, by repeat (first | exact Drawn0.refl _ | apply Drawn0.step)⟩
      case round =>
       clear H'
       try clear c1
       try clear p2
       try clear c3
       try clear p3
       try clear q3
       try clear hx3
       try clear c6
       try clear c8
       try clear c9
       try clear c10
       try clear c11
       try clear c11b0
       try clear c12
       try clear c12b0
       try clear hx341_0
       try clear hx341_1
       try clear hx341_2
       try clear hx341_3
       try clear hx341_4
       try clear hx341_5
       try clear hx341_6
       try clear p2
       try clear p341
       try clear q341
       obtain ⟨x7_2, rfl, HA, HK2, ⟨m2, rfl⟩⟩ := hrel
       cases gk with
       | zero => exact absurd HA.out (by simp [tumbrelref09_Meet.l0])
       | succ k2 =>
        have H := HA.out
        clear HA
        simp only [tumbrelref09_Meet.l0] at H
        by_cases c13 : x7_2 ≥ 0
        ·rw [if_pos c13] at H
         have c13b0 : decide (0 ≤ x7_2) = true := decide_eq_true c13
         clear c13
         replace H := Option.bind_eq_some_iff.mp H
         obtain ⟨t342, A140, H⟩ := H
         replace H : (if t342 = true then (some x7_2) else (if 0 ≤ x7_2 then (if x7_2 < (l0.length : Int) then (tumbrelref09_Meet.l0 k2 l0 a2 ((rd_T140 l0 x7_2).f1)) else (none)) else (none))) = some r := H
         have A14 := Aside0.mk A140
         clear A140
         by_cases c15 : t342 = true
         ·subst c15
          have H1 : (some x7_2) = some r := by rw [if_pos rfl] at H; exact H
          clear H
          have H := H1
          clear H1
          obtain rfl := Option.some.inj H
          go_wp2_with (first | ((with_reducible refine gate_callee (f := 113) rfl ?_); refine goesL_ (some 38) rfl rfl Try.func113 (by kernel_rfl) rfl #[.slice (some ad341) l0.length c0, .int .i64 a2, .int .i64 x7_2] rfl kz12_1 ?_; (with_reducible refine (tumbrelref09_lies.calls k2 _ _ l0 a2 x7_2 true _ ?side1 ?side2 A14.out).mono ?_); (case side1 => repeat (first | exact HR0.out | (with_reducible refine Kd.C_alloc ?_ _) | (with_reducible refine Kd.C_drewN ?_ _) | (with_reducible refine Kd.C_drew ?_))); (case side2 => exact HC0.out); rintro e w' ⟨rfl, ⟨nd, rfl⟩⟩; refine ⟨_, rfl, ?_⟩))
          go_ret
          exact ⟨by first | rfl | (simp; done) | (simp [*]; done), by repeat (first | exact Drawn0.refl _ | apply Drawn0.step)⟩
         ·replace c15 := Bool.eq_false_iff.mpr c15
          subst c15
          have H1 : (if 0 ≤ x7_2 then (if x7_2 < (l0.length : Int) then (tumbrelref09_Meet.l0 k2 l0 a2 ((rd_T140 l0 x7_2).f1)) else (none)) else (none)) = some r := by rw [if_neg (show ¬ (false = true) by decide)] at H; exact H
          clear H
          have H := H1
          clear H1
          by_cases c16 : 0 ≤ x7_2
          ·rw [if_pos c16] at H
           have c16b0 : decide (0 ≤ x7_2) = true := decide_eq_true c16
           clear c16
           by_cases c17 : x7_2 < (l0.length : Int)
           ·rw [if_pos c17] at H
            have c17b0 : decide (x7_2 < (l0.length : Int)) = true := decide_eq_true c17
            clear c17
            have H' := Aside0.mk H
            clear H
            go_wp2_with (first | ((with_reducible refine gate_callee (f := 113) rfl ?_); refine goesL_ (some 38) rfl rfl Try.func113 (by kernel_rfl) rfl #[.slice (some ad341) l0.length c0, .int .i64 a2, .int .i64 x7_2] rfl kz12_1 ?_; (with_reducible refine (tumbrelref09_lies.calls k2 _ _ l0 a2 x7_2 false _ ?side1 ?side2 A14.out).mono ?_); (case side1 => repeat (first | exact HR0.out | (with_reducible refine Kd.C_alloc ?_ _) | (with_reducible refine Kd.C_drewN ?_ _) | (with_reducible refine Kd.C_drew ?_))); (case side2 => exact HC0.out); rintro e w' ⟨rfl, ⟨nd, rfl⟩⟩; refine ⟨_, rfl, ?_⟩; have p343 : 0 ≤ (x7_2 : Int) := of_decide_eq_true (by first | (with_reducible assumption) | assumption); have q343 : x7_2 < (l0.length : Int) := of_decide_eq_true (by first | (with_reducible assumption) | assumption); obtain ⟨ad343, e343, hx343_0, hx343_1, hx343_2, hx343_3, hx343_4, hx343_5, hx343_6⟩ := at_T140 HR0.out x7_2 p343 q343; obtain rfl : ad341 = ad343 := (by injection e343); replace p343 := eq_true p343; replace q343 := eq_true q343))
            go_roundg k2
            case measure => have := HJ3.out; have := HK2.out; omega
            case rel => exact ⟨((rd_T140 l0 x7_2).f1), kz12_3, H', ⟨by have := HJ3.out; have := HK2.out; omega⟩, by repeat (first | exact Drawn0.refl _ | apply Drawn0.step)⟩
           ·rw [if_neg c17] at H
            exact absurd H (by simp)
          ·rw [if_neg c16] at H
           exact absurd H (by simp)
        ·rw [if_neg c13] at H
         have c13b0 : decide (0 ≤ x7_2) = false := decide_eq_false c13
         clear c13
         obtain rfl := Option.some.inj H
         go_wp2
         go_ret
         exact ⟨by first | rfl | (simp; done) | (simp [*]; done), by repeat (first | exact Drawn0.refl _ | apply Drawn0.step)⟩
     ·rw [if_neg c12] at H
      exact absurd H (by simp)
    ·rw [if_neg c11] at H
     exact absurd H (by simp)

end Go.Proofs.Ytjghlomkimoeoaa.PConfigMoves
