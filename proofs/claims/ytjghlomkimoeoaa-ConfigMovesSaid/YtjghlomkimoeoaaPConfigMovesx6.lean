-- Written by fprint.py (wip), by way of the printer's functions; where they are turned, by texts of mine.
import Derived.Test.YtjghlomkimoeoaaPConfigMovesx0
import Derived.Test.YtjghlomkimoeoaaPConfigMovesx2
import Derived.Test.YtjghlomkimoeoaaPConfigMovesx3
namespace Go.Proofs.Ytjghlomkimoeoaa.PConfigMoves
open Go.RowKit Go.Proofs.YtjghlomkimoeoaaW.PrintWords Go.Proofs.YtjghlomkimoeoaaW.PrintLast Go.Proofs.YtjghlomkimoeoaaW.PrintMore
attribute [local go_sem] max2_int min2_int max_two min_two max_three min_three max_four min_four   -- for this text's walks alone
set_option linter.unusedVariables false
set_option linter.unusedSimpArgs false
theorem kz6_1 {p_ : Prop} (h_ : p_ := by repeat (first | (with_reducible first | exact HB.out | apply below_alloc | apply pw_below_drewN | apply below_drew1) | exact HB.out)) : p_ := h_
theorem kz6_2 {p_ : Prop} (h_ : p_ := by (try simp only [List.map_toArray, List.map_cons, List.map_nil]); first | done | rfl | (simp only [List.length_drop, List.length_take]; rfl)) : p_ := h_
theorem kz6_3 {p_ : Prop} (h_ : p_ := by first | (with_reducible assumption) | assumption) : p_ := h_
theorem kz6_4 {p_ : Prop} (h_ : p_ := by (with_reducible repeat (first | apply Kd.R_alloc | apply Kd.R_drewN | apply Kd.R_drew)); exact HO_20.out) : p_ := h_
theorem kz6_5 {p_ : Prop} (h_ : p_ := by (with_reducible repeat (first | apply Kd.R_alloc | apply Kd.R_drewN | apply Kd.R_drew)); exact HO_12.out) : p_ := h_
theorem kz6_6 {p_ : Prop} (h_ : p_ := by (with_reducible repeat (first | apply Kd.R_alloc | apply Kd.R_drewN | apply Kd.R_drew)); exact HO_7.out) : p_ := h_
theorem kz6_7 {p_ : Prop} (h_ : p_ := by (with_reducible repeat (first | apply Kd.R_alloc | apply Kd.R_drewN | apply Kd.R_drew)); exact HO_5.out) : p_ := h_
theorem kz6_8 {p_ : Prop} (h_ : p_ := by first | rfl | (simp; done) | (simp [*]; done)) : p_ := h_

/-! ### tree_Within: function 29 -/
def tree_Within.j0 : Nat → List (S86) → Int → Int → Bool → Option (Bool)
 | 0, _, _, _, _ => none
 | k + 1, x0, x1, x2, x7 => if x7 = true then (some false) else (if x2 = (-1) then (some true) else ((tree_state.f x0 x2).bind fun t173 => (if t173 = true then (if x2 ≤ x1 then (if 0 ≤ x2 then (if x2 < (x0.length : Int) then (some (decide (x1 < ((rd_T86 x0 x2).f3)))) else (none)) else (none)) else (some false)) else (some false))))
def tree_Within.f (k : Nat) (l0 : List (S86)) (a1 : Int) (a2 : Int) : Option (Bool) := (tree_Formed.f k l0).bind fun t171 => (if t171 = true then (if a1 = (-1) then (tree_Within.j0 k l0 a1 a2 false) else ((tree_state.f l0 a1).bind fun t172 => (tree_Within.j0 k l0 a1 a2 (!t172)))) else (tree_Within.j0 k l0 a1 a2 true))
theorem tree_Within.mono_l : ∀ k, (∀ y0 y1 y2 y3, LeO (tree_Within.j0 k y0 y1 y2 y3) (tree_Within.j0 (k + 1) y0 y1 y2 y3))
 | 0 => fun _ _ _ _ r h => by simp [tree_Within.j0] at h
 | k + 1 => by
  have ih0 := tree_Within.mono_l k
  ·intro y0 y1 y2 y3
   unfold tree_Within.j0
   repeat' first
   | (with_reducible exact ih0 _ _ _ _)
   | (with_reducible exact tree_Formed.mono _ _)
   | (with_reducible exact LeO.refl _)
   | (with_reducible exact LeO.none _)
   | (with_reducible refine LeO.ite ?_ ?_)
   | (with_reducible refine LeO.bind ?_ (fun _ => ?_))
   | exact ih0 _ _ _ _
   | exact tree_Formed.mono _ _
   | exact LeO.none _
   | refine LeO.ite ?_ ?_
   | refine LeO.bind ?_ (fun _ => ?_)
theorem tree_Within.mono : ∀ a0 a1 a2 k, LeO (tree_Within.f k a0 a1 a2) (tree_Within.f (k + 1) a0 a1 a2) := by
 intro a0 a1 a2 k
 have ih0 := tree_Within.mono_l k
 unfold tree_Within.f
 repeat' first
   | (with_reducible exact ih0 _ _ _ _)
   | (with_reducible exact tree_Formed.mono _ _)
   | (with_reducible exact LeO.refl _)
   | (with_reducible exact LeO.none _)
   | (with_reducible refine LeO.ite ?_ ?_)
   | (with_reducible refine LeO.bind ?_ (fun _ => ?_))
   | exact ih0 _ _ _ _
   | exact tree_Formed.mono _ _
   | exact LeO.none _
   | refine LeO.ite ?_ ?_
   | refine LeO.bind ?_ (fun _ => ?_)
set_option maxHeartbeats 8000000 in
set_option maxRecDepth 100000 in
theorem tree_Within.calls (k : Nat) (A0 : Option Addr) (c0 : Nat) (l0 : List (S86)) (a1 : Int) (a2 : Int) (r : Bool) (w : World) (hr0 : Kd.C k86 w A0 l0.length l0) (hc0 : l0.length ≤ c0) (h : tree_Within.f k l0 a1 a2 = some r) :
  Calls Try.prog 29 #[.slice A0 l0.length c0, .int .i64 a1, .int .i64 a2] w fun e w' => e = .returned (.bool r) ∧ Below w.heap.size w w' := by
 have HR0 := Aside0.mk hr0
 have HC0 := Aside0.mk hc0
 clear hr0 hc0
 have HB := Aside0.mk (Below.refl w.heap.size w)
 have H : ((tree_Formed.f k l0).bind fun t171 => (if t171 = true then (if a1 = (-1) then (tree_Within.j0 k l0 a1 a2 false) else ((tree_state.f l0 a1).bind fun t172 => (tree_Within.j0 k l0 a1 a2 (!t172)))) else (tree_Within.j0 k l0 a1 a2 true))) = some r := h
 clear h
 have HC4 := Aside0.mk H
 clear H
 go_enter Try.func29, Try.ntmps29
 go_upto_region 1 with (fail)
 go_cut [7] (fun v7 wc => ∃ (kq : Nat) (x7_3 : Bool), v7 = .bool x7_3 ∧ Aside0 (tree_Within.j0 kq l0 a1 a2 x7_3 = some r) ∧ Aside0 (kq ≤ k) ∧ Aside0 (Below w.heap.size w wc))
 case first =>
  have H := HC4.out
  clear HC4
  replace H := Option.bind_eq_some_iff.mp H
  obtain ⟨t171, A50, H⟩ := H
  replace H : (if t171 = true then (if a1 = (-1) then (tree_Within.j0 k l0 a1 a2 false) else ((tree_state.f l0 a1).bind fun t172 => (tree_Within.j0 k l0 a1 a2 (!t172)))) else (tree_Within.j0 k l0 a1 a2 true)) = some r := H
  have A5 := Aside0.mk A50
  clear A50
  by_cases c6 : t171 = true
  ·subst c6
   have H1 : (if a1 = (-1) then (tree_Within.j0 k l0 a1 a2 false) else ((tree_state.f l0 a1).bind fun t172 => (tree_Within.j0 k l0 a1 a2 (!t172)))) = some r := by rw [if_pos rfl] at H; exact H
   clear H
   have H := H1
   clear H1
   by_cases c7 : a1 = (-1)
   ·rw [if_pos c7] at H
    have c7b0 : (a1 == (-1)) = true := beq_iff_eq.mpr c7
    have c7b1 : (a1 != (-1)) = false := bne_eq_false_iff_eq.mpr c7
    clear c7
    (first | rw [c7b0] | (simp only [i64_w, i32_w]; rw [c7b0]) | skip)
    have H' := Aside0.mk H
    clear H
    go_wp2_with (first | ((with_reducible refine gate_callee (f := 80) rfl ?_); refine goesL_ (some 9) rfl rfl Try.func80 (by kernel_rfl) rfl #[.slice A0 l0.length c0] rfl kz6_2 ?_; (with_reducible refine (tree_Formed.calls k _ _ l0 true _ ?side1 ?side2 A5.out).mono ?_); (case side1 => repeat (first | exact (Kd.C_below HR0.out HB.out) | (with_reducible refine Kd.C_alloc ?_ _) | (with_reducible refine Kd.C_drewN ?_ _) | (with_reducible refine Kd.C_drew ?_))); (case side2 => exact HC0.out); rintro e w8 ⟨rfl, hb⟩; refine ⟨_, rfl, ?_⟩; have n0_ := Aside0.mk (below_step kz6_1 hb); clear HB; have HB := n0_; clear n0_; (try clear hb); (try clear hb2); (try clear hk); (try clear hi)))
    go_meet
    case rel => exact ⟨_, (false), kz6_8, H', ⟨by first | omega | exact Nat.le_refl _⟩, ⟨by repeat (first | (with_reducible first | exact HB.out | apply below_alloc | apply pw_below_drewN | apply below_drew1) | exact HB.out)⟩⟩
   ·rw [if_neg c7] at H
    have c7b0 : (a1 == (-1)) = false := beq_eq_false_iff_ne.mpr c7
    have c7b1 : (a1 != (-1)) = true := bne_iff_ne.mpr c7
    (first | rw [c7b0] | (simp only [i64_w, i32_w]; rw [c7b0]) | skip)
    replace H := Option.bind_eq_some_iff.mp H
    obtain ⟨t172, A90, H⟩ := H
    replace H : (tree_Within.j0 k l0 a1 a2 (!t172)) = some r := H
    have A9 := Aside0.mk A90
    clear A90
    have H' := Aside0.mk H
    clear H
    go_wp2_with (first | ((with_reducible refine gate_callee (f := 80) rfl ?_); refine goesL_ (some 9) rfl rfl Try.func80 (by kernel_rfl) rfl #[.slice A0 l0.length c0] rfl kz6_2 ?_; (with_reducible refine (tree_Formed.calls k _ _ l0 true _ ?side1 ?side2 A5.out).mono ?_); (case side1 => repeat (first | exact (Kd.C_below HR0.out HB.out) | (with_reducible refine Kd.C_alloc ?_ _) | (with_reducible refine Kd.C_drewN ?_ _) | (with_reducible refine Kd.C_drew ?_))); (case side2 => exact HC0.out); rintro e w10 ⟨rfl, hb⟩; refine ⟨_, rfl, ?_⟩; have n0_ := Aside0.mk (below_step kz6_1 hb); clear HB; have HB := n0_; clear n0_; (try clear hb); (try clear hb2); (try clear hk); (try clear hi)) | (go_at_call 81; (with_reducible refine (tree_state.calls _ _ l0 a1 t172 _ ?side1 ?side2 A9.out).mono ?_); (case side1 => repeat (first | exact (Kd.C_below HR0.out HB.out) | (with_reducible refine Kd.C_alloc ?_ _) | (with_reducible refine Kd.C_drewN ?_ _) | (with_reducible refine Kd.C_drew ?_))); (case side2 => exact HC0.out); rintro e w' ⟨rfl, ⟨nd, rfl⟩⟩))
    go_meet
    case rel => exact ⟨_, (!t172), kz6_8, H', ⟨by first | omega | exact Nat.le_refl _⟩, ⟨by repeat (first | (with_reducible first | exact HB.out | apply below_alloc | apply pw_below_drewN | apply below_drew1) | exact HB.out)⟩⟩
  ·replace c6 := Bool.eq_false_iff.mpr c6
   subst c6
   have H1 : (tree_Within.j0 k l0 a1 a2 true) = some r := by rw [if_neg (show ¬ (false = true) by decide)] at H; exact H
   clear H
   have H := H1
   clear H1
   have H' := Aside0.mk H
   clear H
   go_wp2_with (first | ((with_reducible refine gate_callee (f := 80) rfl ?_); refine goesL_ (some 9) rfl rfl Try.func80 (by kernel_rfl) rfl #[.slice A0 l0.length c0] rfl kz6_2 ?_; (with_reducible refine (tree_Formed.calls k _ _ l0 false _ ?side1 ?side2 A5.out).mono ?_); (case side1 => repeat (first | exact (Kd.C_below HR0.out HB.out) | (with_reducible refine Kd.C_alloc ?_ _) | (with_reducible refine Kd.C_drewN ?_ _) | (with_reducible refine Kd.C_drew ?_))); (case side2 => exact HC0.out); rintro e w11 ⟨rfl, hb⟩; refine ⟨_, rfl, ?_⟩; have n0_ := Aside0.mk (below_step kz6_1 hb); clear HB; have HB := n0_; clear n0_; (try clear hb); (try clear hb2); (try clear hk); (try clear hi)))
   go_meet
   case rel => exact ⟨_, (true), kz6_8, H', ⟨by first | omega | exact Nat.le_refl _⟩, ⟨by repeat (first | (with_reducible first | exact HB.out | apply below_alloc | apply pw_below_drewN | apply below_drew1) | exact HB.out)⟩⟩
 case rest =>
  clear HC4
  try clear c2
  try clear p2
  try clear c6
  try clear c7
  try clear c7b0
  try clear c7b1
  try clear c8
  obtain ⟨kq, x7_3, rfl, HA, HJ3, HB⟩ := hcut
  cases kq with
  | zero => exact absurd HA.out (by simp [tree_Within.j0])
  | succ kj3 =>
   have H := HA.out
   clear HA
   simp only [tree_Within.j0] at H
   by_cases c12 : x7_3 = true
   ·subst c12
    have H1 : (some false) = some r := by rw [if_pos rfl] at H; exact H
    clear H
    have H := H1
    clear H1
    obtain rfl := Option.some.inj H
    go_wp2
    go_ret
    exact ⟨by first | rfl | (simp [errW_none, errW_some] <;> rfl) | (simp [*, errW_none, errW_some] <;> rfl), by repeat (first | (with_reducible first | exact HB.out | apply below_alloc | apply pw_below_drewN | apply below_drew1) | exact HB.out)⟩
   ·replace c12 := Bool.eq_false_iff.mpr c12
    subst c12
    have H1 : (if a2 = (-1) then (some true) else ((tree_state.f l0 a2).bind fun t173 => (if t173 = true then (if a2 ≤ a1 then (if 0 ≤ a2 then (if a2 < (l0.length : Int) then (some (decide (a1 < ((rd_T86 l0 a2).f3)))) else (none)) else (none)) else (some false)) else (some false)))) = some r := by rw [if_neg (show ¬ (false = true) by decide)] at H; exact H
    clear H
    have H := H1
    clear H1
    by_cases c13 : a2 = (-1)
    ·rw [if_pos c13] at H
     have c13b0 : (a2 == (-1)) = true := beq_iff_eq.mpr c13
     have c13b1 : (a2 != (-1)) = false := bne_eq_false_iff_eq.mpr c13
     clear c13
     obtain rfl := Option.some.inj H
     go_wp2
     go_ret
     exact ⟨by first | rfl | (simp [errW_none, errW_some] <;> rfl) | (simp [*, errW_none, errW_some] <;> rfl), by repeat (first | (with_reducible first | exact HB.out | apply below_alloc | apply pw_below_drewN | apply below_drew1) | exact HB.out)⟩
    ·rw [if_neg c13] at H
     have c13b0 : (a2 == (-1)) = false := beq_eq_false_iff_ne.mpr c13
     have c13b1 : (a2 != (-1)) = true := bne_iff_ne.mpr c13
     replace H := Option.bind_eq_some_iff.mp H
     obtain ⟨t173, A140, H⟩ := H
     replace H : (if t173 = true then (if a2 ≤ a1 then (if 0 ≤ a2 then (if a2 < (l0.length : Int) then (some (decide (a1 < ((rd_T86 l0 a2).f3)))) else (none)) else (none)) else (some false)) else (some false)) = some r := H
     have A14 := Aside0.mk A140
     clear A140
     by_cases c15 : t173 = true
     ·subst c15
      have H1 : (if a2 ≤ a1 then (if 0 ≤ a2 then (if a2 < (l0.length : Int) then (some (decide (a1 < ((rd_T86 l0 a2).f3)))) else (none)) else (none)) else (some false)) = some r := by rw [if_pos rfl] at H; exact H
      clear H
      have H := H1
      clear H1
      by_cases c16 : a2 ≤ a1
      ·rw [if_pos c16] at H
       have c16b0 : decide (a2 ≤ a1) = true := decide_eq_true c16
       clear c16
       by_cases c17 : 0 ≤ a2
       ·rw [if_pos c17] at H
        have c17b0 : decide (0 ≤ a2) = true := decide_eq_true c17
        clear c17
        by_cases c18 : a2 < (l0.length : Int)
        ·rw [if_pos c18] at H
         have c18b0 : decide (a2 < (l0.length : Int)) = true := decide_eq_true c18
         clear c18
         obtain rfl := Option.some.inj H
         go_wp2_with (first | ((with_reducible refine gate_callee (f := 81) rfl ?_); refine goesL_ (some 26) rfl rfl Try.func81 (by kernel_rfl) rfl #[.slice A0 l0.length c0, .int .i64 a2] rfl kz6_2 ?_; (with_reducible refine (tree_state.calls _ _ l0 a2 true _ ?side1 ?side2 A14.out).mono ?_); (case side1 => repeat (first | exact (Kd.C_below HR0.out HB.out) | (with_reducible refine Kd.C_alloc ?_ _) | (with_reducible refine Kd.C_drewN ?_ _) | (with_reducible refine Kd.C_drew ?_))); (case side2 => exact HC0.out); rintro e w' ⟨rfl, ⟨nd, rfl⟩⟩; refine ⟨_, rfl, ?_⟩; have p174 : 0 ≤ (a2 : Int) := of_decide_eq_true kz6_3; have q174 : a2 < (l0.length : Int) := of_decide_eq_true kz6_3; obtain ⟨ad174, e174, hx174_0, hx174_1, hx174_2, hx174_3, hx174_4, hx174_5, hx174_6⟩ := at_T86 HR0.out a2 p174 q174; cases e174; replace hx174_0 := (HB.out.cell (World.block_lt_of_cell? w _ hx174_0)).trans hx174_0; replace hx174_1 := (HB.out.cell (World.block_lt_of_cell? w _ hx174_1)).trans hx174_1; replace hx174_2 := (HB.out.cell (World.block_lt_of_cell? w _ hx174_2)).trans hx174_2; replace hx174_3 := (HB.out.cell (World.block_lt_of_cell? w _ hx174_3)).trans hx174_3; replace hx174_4 := (HB.out.cell (World.block_lt_of_cell? w _ hx174_4)).trans hx174_4; replace hx174_5 := (HB.out.cell (World.block_lt_of_cell? w _ hx174_5)).trans hx174_5; replace hx174_6 := (HB.out.cell (World.block_lt_of_cell? w _ hx174_6)).trans hx174_6; replace p174 := eq_true p174; replace q174 := eq_true q174))
         go_ret
         exact ⟨by first | rfl | (simp [errW_none, errW_some] <;> rfl) | (simp [*, errW_none, errW_some] <;> rfl), by repeat (first | (with_reducible first | exact HB.out | apply below_alloc | apply pw_below_drewN | apply below_drew1) | exact HB.out)⟩
        ·rw [if_neg c18] at H
         exact absurd H (by simp)
       ·rw [if_neg c17] at H
        exact absurd H (by simp)
      ·rw [if_neg c16] at H
       have c16b0 : decide (a2 ≤ a1) = false := decide_eq_false c16
       clear c16
       obtain rfl := Option.some.inj H
       go_wp2_with (first | ((with_reducible refine gate_callee (f := 81) rfl ?_); refine goesL_ (some 26) rfl rfl Try.func81 (by kernel_rfl) rfl #[.slice A0 l0.length c0, .int .i64 a2] rfl kz6_2 ?_; (with_reducible refine (tree_state.calls _ _ l0 a2 true _ ?side1 ?side2 A14.out).mono ?_); (case side1 => repeat (first | exact (Kd.C_below HR0.out HB.out) | (with_reducible refine Kd.C_alloc ?_ _) | (with_reducible refine Kd.C_drewN ?_ _) | (with_reducible refine Kd.C_drew ?_))); (case side2 => exact HC0.out); rintro e w' ⟨rfl, ⟨nd, rfl⟩⟩; refine ⟨_, rfl, ?_⟩))
       go_ret
       exact ⟨by first | rfl | (simp [errW_none, errW_some] <;> rfl) | (simp [*, errW_none, errW_some] <;> rfl), by repeat (first | (with_reducible first | exact HB.out | apply below_alloc | apply pw_below_drewN | apply below_drew1) | exact HB.out)⟩
     ·replace c15 := Bool.eq_false_iff.mpr c15
      subst c15
      have H1 : (some false) = some r := by rw [if_neg (show ¬ (false = true) by decide)] at H; exact H
      clear H
      have H := H1
      clear H1
      obtain rfl := Option.some.inj H
      go_wp2_with (first | ((with_reducible refine gate_callee (f := 81) rfl ?_); refine goesL_ (some 26) rfl rfl Try.func81 (by kernel_rfl) rfl #[.slice A0 l0.length c0, .int .i64 a2] rfl kz6_2 ?_; (with_reducible refine (tree_state.calls _ _ l0 a2 false _ ?side1 ?side2 A14.out).mono ?_); (case side1 => repeat (first | exact (Kd.C_below HR0.out HB.out) | (with_reducible refine Kd.C_alloc ?_ _) | (with_reducible refine Kd.C_drewN ?_ _) | (with_reducible refine Kd.C_drew ?_))); (case side2 => exact HC0.out); rintro e w' ⟨rfl, ⟨nd, rfl⟩⟩; refine ⟨_, rfl, ?_⟩))
      go_ret
      exact ⟨by first | rfl | (simp [errW_none, errW_some] <;> rfl) | (simp [*, errW_none, errW_some] <;> rfl), by repeat (first | (with_reducible first | exact HB.out | apply below_alloc | apply pw_below_drewN | apply below_drew1) | exact HB.out)⟩

/-! ### config_formed: function 92 -/
def config_formed.f (k : Nat) (l0 : List (S86)) (a1 : Int) : Option (Bool) := if a1 ≥ 0 then (if a1 < (l0.length : Int) then ((tree_Formed.f k l0).bind fun t175 => (some t175)) else (some false)) else (some false)
theorem config_formed.mono : ∀ a0 a1 k, LeO (config_formed.f k a0 a1) (config_formed.f (k + 1) a0 a1) := by
 intro a0 a1 k
 unfold config_formed.f
 repeat' first
   | (with_reducible exact tree_Formed.mono _ _)
   | (with_reducible exact LeO.refl _)
   | (with_reducible exact LeO.none _)
   | (with_reducible refine LeO.ite ?_ ?_)
   | (with_reducible refine LeO.bind ?_ (fun _ => ?_))
   | exact tree_Formed.mono _ _
   | exact LeO.none _
   | refine LeO.ite ?_ ?_
   | refine LeO.bind ?_ (fun _ => ?_)
set_option maxHeartbeats 8000000 in
set_option maxRecDepth 100000 in
theorem config_formed.calls (k : Nat) (A0 : Option Addr) (c0 : Nat) (l0 : List (S86)) (a1 : Int) (r : Bool) (w : World) (hr0 : Kd.C k86 w A0 l0.length l0) (hc0 : l0.length ≤ c0) (h : config_formed.f k l0 a1 = some r) :
  Calls Try.prog 92 #[.slice A0 l0.length c0, .int .i64 a1] w fun e w' => e = .returned (.bool r) ∧ Below w.heap.size w w' := by
 have HR0 := Aside0.mk hr0
 have HC0 := Aside0.mk hc0
 clear hr0 hc0
 have HB := Aside0.mk (Below.refl w.heap.size w)
 have H : (if a1 ≥ 0 then (if a1 < (l0.length : Int) then ((tree_Formed.f k l0).bind fun t175 => (some t175)) else (some false)) else (some false)) = some r := h
 clear h
 by_cases c3 : a1 ≥ 0
 ·rw [if_pos c3] at H
  have c3b0 : decide (0 ≤ a1) = true := decide_eq_true c3
  clear c3
  by_cases c4 : a1 < (l0.length : Int)
  ·rw [if_pos c4] at H
   have c4b0 : decide (a1 < (l0.length : Int)) = true := decide_eq_true c4
   clear c4
   replace H := Option.bind_eq_some_iff.mp H
   obtain ⟨t175, A50, H⟩ := H
   replace H : (some t175) = some r := H
   have A5 := Aside0.mk A50
   clear A50
   obtain rfl := Option.some.inj H
   go_enter Try.func92, Try.ntmps92
   go_wp2_with (first | (go_at_call 80; (with_reducible refine (tree_Formed.calls k _ _ l0 t175 _ ?side1 ?side2 A5.out).mono ?_); (case side1 => repeat (first | exact HR0.out | (with_reducible refine Kd.C_alloc ?_ _) | (with_reducible refine Kd.C_drewN ?_ _) | (with_reducible refine Kd.C_drew ?_))); (case side2 => exact HC0.out); rintro e w6 ⟨rfl, hb⟩; have n0_ := Aside0.mk (below_step kz6_1 hb); clear HB; have HB := n0_; clear n0_; (try clear hb); (try clear hb2); (try clear hk); (try clear hi)))
   go_ret
   exact ⟨by first | rfl | (simp [errW_none, errW_some] <;> rfl) | (simp [*, errW_none, errW_some] <;> rfl), by repeat (first | (with_reducible first | exact HB.out | apply below_alloc | apply pw_below_drewN | apply below_drew1) | exact HB.out)⟩
  ·rw [if_neg c4] at H
   have c4b0 : decide (a1 < (l0.length : Int)) = false := decide_eq_false c4
   clear c4
   obtain rfl := Option.some.inj H
   go_enter Try.func92, Try.ntmps92
   go_wp2
   go_ret
   exact ⟨by first | rfl | (simp [errW_none, errW_some] <;> rfl) | (simp [*, errW_none, errW_some] <;> rfl), by repeat (first | (with_reducible first | exact HB.out | apply below_alloc | apply pw_below_drewN | apply below_drew1) | exact HB.out)⟩
 ·rw [if_neg c3] at H
  have c3b0 : decide (0 ≤ a1) = false := decide_eq_false c3
  clear c3
  obtain rfl := Option.some.inj H
  go_enter Try.func92, Try.ntmps92
  go_wp2
  go_ret
  exact ⟨by first | rfl | (simp [errW_none, errW_some] <;> rfl) | (simp [*, errW_none, errW_some] <;> rfl), by repeat (first | (with_reducible first | exact HB.out | apply below_alloc | apply pw_below_drewN | apply below_drew1) | exact HB.out)⟩

/-! ### config_enter: function 93 -/
mutual
def config_enter.l0 : Nat → List (S86) → Int → List Int → List Int → Int → Int → Option (List Int)
 | 0, _, _, _, _, _, _ => none
 | k + 1, x0, x1, x5, x12, x13, x14 => if x14 < x13 then (if 0 ≤ x14 then (if x14 < (x12.length : Int) then ((config_enter.f k x0 (rd x12 x14)).bind fun t183 => (if x5.length + t183.length < 17592186044416 then ((some (x5 ++ t183 : List Int)).bind fun y186 => (if 0 ≤ x1 then (if x1 < (x0.length : Int) then (if (rd_T86 x0 x1).f4 = true then (config_enter.l0 k x0 x1 y186 x12 x13 (wrap64 (x14 + 1))) else (some y186)) else (none)) else (none))) else (none))) else (none)) else (none)) else (some x5)
def config_enter.f : Nat → List (S86) → Int → Option (List Int)
 | 0, _, _ => none
 | k + 1, l0, a1 => (tree_Inner.f k l0 a1).bind fun t179 => (config_enter.l0 k l0 a1 (([a1] : List Int)) t179 (t179.length : Int) 0)
end
theorem config_enter.mono_l : ∀ k, (∀ y0 y1, LeO (config_enter.f k y0 y1) (config_enter.f (k + 1) y0 y1)) ∧ (∀ y0 y1 y2 y3 y4 y5, LeO (config_enter.l0 k y0 y1 y2 y3 y4 y5) (config_enter.l0 (k + 1) y0 y1 y2 y3 y4 y5))
 | 0 => ⟨fun _ _ r h => by simp [config_enter.f] at h, fun _ _ _ _ _ _ r h => by simp [config_enter.l0] at h⟩
 | k + 1 => by
  obtain ⟨ih0, ih1⟩ := config_enter.mono_l k
  refine ⟨?_, ?_⟩
  ·intro y0 y1
   unfold config_enter.f
   repeat' first
   | (with_reducible exact ih0 _ _)
   | (with_reducible exact ih1 _ _ _ _ _ _)
   | (with_reducible exact tree_Inner.mono _ _ _)
   | (with_reducible exact LeO.refl _)
   | (with_reducible exact LeO.none _)
   | (with_reducible refine LeO.ite ?_ ?_)
   | (with_reducible refine LeO.bind ?_ (fun _ => ?_))
   | exact ih0 _ _
   | exact ih1 _ _ _ _ _ _
   | exact tree_Inner.mono _ _ _
   | exact LeO.none _
   | refine LeO.ite ?_ ?_
   | refine LeO.bind ?_ (fun _ => ?_)
  ·intro y0 y1 y2 y3 y4 y5
   unfold config_enter.l0
   repeat' first
   | (with_reducible exact ih0 _ _)
   | (with_reducible exact ih1 _ _ _ _ _ _)
   | (with_reducible exact tree_Inner.mono _ _ _)
   | (with_reducible exact LeO.refl _)
   | (with_reducible exact LeO.none _)
   | (with_reducible refine LeO.ite ?_ ?_)
   | (with_reducible refine LeO.bind ?_ (fun _ => ?_))
   | exact ih0 _ _
   | exact ih1 _ _ _ _ _ _
   | exact tree_Inner.mono _ _ _
   | exact LeO.none _
   | refine LeO.ite ?_ ?_
   | refine LeO.bind ?_ (fun _ => ?_)
theorem config_enter.mono : ∀ a0 a1 k, LeO (config_enter.f k a0 a1) (config_enter.f (k + 1) a0 a1) := by
 intro a0 a1 k
 obtain ⟨ih0, ih1⟩ := config_enter.mono_l k
 exact ih0 a0 a1
set_option maxHeartbeats 8000000 in
set_option maxRecDepth 100000 in
theorem config_enter.calls (k : Nat) : ∀ (A0 : Option Addr) (c0 : Nat) (l0 : List (S86)) (a1 : Int) (r : List Int) (w : World) (hr0 : Kd.C k86 w A0 l0.length l0) (hc0 : l0.length ≤ c0) (h : config_enter.f k l0 a1 = some r),
  Calls Try.prog 93 #[.slice A0 l0.length c0, .int .i64 a1] w fun e w' => ∃ v0_ : Value, e = .returned (v0_) ∧ Kd.R (Kd.int .i64) 3 w' w.heap.size (fun _ => True) v0_ r ∧ Below w.heap.size w w' := by
 induction k using Nat.strongRecOn with
 | _ k ih =>
 intro A0 c0 l0 a1 r w hr0 hc0 h
 cases k with
 | zero => exact absurd h (by simp [config_enter.f])
 | succ k =>
 simp only [config_enter.f] at h
 have HR0 := Aside0.mk hr0
 have HC0 := Aside0.mk hc0
 clear hr0 hc0
 have HB := Aside0.mk (Below.refl w.heap.size w)
 have H : ((tree_Inner.f k l0 a1).bind fun t179 => (config_enter.l0 k l0 a1 (([a1] : List Int)) t179 (t179.length : Int) 0)) = some r := h
 clear h
 obtain ⟨y176, hy176⟩ : ∃ y_ : List Int, y_ = (([a1] : List Int)) := ⟨_, rfl⟩
 replace H : ((tree_Inner.f k l0 a1).bind fun t179 => (config_enter.l0 k l0 a1 y176 t179 (t179.length : Int) 0)) = some r := by first | (rw [hy176]; with_reducible exact H) | (have H2_ := (Option.bind_some _ _).symm.trans H; rw [hy176]; with_reducible exact H2_) | (have H2_ := (Option.bind_some _ _).symm.trans H; with_reducible exact H2_) | with_reducible exact H | (rw [hy176]; exact H) | exact H
 have Ny176 := Aside0.mk hy176
 clear hy176
 replace H := Option.bind_eq_some_iff.mp H
 obtain ⟨t179, A30, H⟩ := H
 replace H : (config_enter.l0 k l0 a1 y176 t179 (t179.length : Int) 0) = some r := H
 have A3 := Aside0.mk A30
 clear A30
 have H' := Aside0.mk H
 clear H
 go_enter Try.func93, Try.ntmps93
 go_wp2_with (first | ((with_reducible refine gate_dst (N := 9) rfl ?_); refine Kd.R_lit (Kd.int .i64) _ 3 ?hg (N := 9) ?hd (xs := ([a1] : List Int)) (inner := [.int .i64 a1]) (ok := fun _ => True) (okp := fun _ => True) ?hr ?hp (fun _ hk => hk) trivial (Below.refl _ _) (Nat.le_refl _) (by simp) ?_; (case hd => rfl); (case hg => rfl); (case hr => first | (go_simp; done) | (go_simp; rfl)); (case hp => exact (Reps.one (show Kd.M (Kd.int .i64) _ _ _ a1 [.int .i64 a1] from rfl) (Reps.none _ _))); intro v177 w4 ho5 hb hg_ hnew_; clear hg_ hnew_; (first | rw [← Ny176.out] at ho5 | (simp only [Int.reduceToNat] at ho5; rw [← Ny176.out] at ho5)); have n0_ := Aside0.mk (Kd.R_lower ho5 (below_size kz6_1)); have n1_ := Aside0.mk (below_step kz6_1 hb); clear HB; have HO178 := n0_; have HB := n1_; clear n0_ n1_; clear hb ho5) | ((with_reducible refine gate_callee (f := 85) rfl ?_); refine goesL_ (some 12) rfl rfl Try.func85 (by kernel_rfl) rfl #[.slice A0 l0.length c0, .int .i64 a1] rfl kz6_2 ?_; (with_reducible refine (tree_Inner.calls k _ _ l0 a1 t179 _ ?side1 ?side2 A3.out).mono ?_); (case side1 => repeat (first | exact (Kd.C_below HR0.out HB.out) | (with_reducible refine Kd.C_alloc ?_ _) | (with_reducible refine Kd.C_drewN ?_ _) | (with_reducible refine Kd.C_drew ?_))); (case side2 => exact HC0.out); rintro e w6 ⟨v180, rfl, ho0, hb⟩; refine ⟨_, rfl, ?_⟩; have n0_ := Aside0.mk (Kd.R_elder' (by (with_reducible repeat (first | apply Kd.R_alloc | apply Kd.R_drewN | apply Kd.R_drew)); exact HO178.out) (Kd.R_base ho0) hb); have n1_ := Aside0.mk (Kd.R_lower (Kd.R_new' ho0 (Kd.R_lt (by (with_reducible repeat (first | apply Kd.R_alloc | apply Kd.R_drewN | apply Kd.R_drew)); exact HO178.out))) (below_size kz6_1)); have n2_ := Aside0.mk (below_step kz6_1 hb); clear HO178; clear HB; have HO178 := n0_; have HO181 := n1_; have HB := n2_; clear n0_ n1_ n2_; (try clear hb); (try clear hb2); (try clear hk); (try clear hi); (try clear ho0); obtain ⟨Ao7, co7, eo7⟩ := Kd.R_slice HO181.out; subst eo7))
 go_loopg [5, 14] k (fun kq v5 v14 w' => ∃ (x5_1 : List Int) (x14_1 : Int), v14 = .int .i64 x14_1 ∧ Aside0 (config_enter.l0 kq l0 a1 x5_1 t179 (t179.length : Int) x14_1 = some r) ∧ Aside0 (kq ≤ k) ∧ Aside0 (Kd.R (Kd.int .i64) 3 w' w.heap.size (fun k_ => some k_ ≠ ((.slice Ao7 t179.length co7) : Value).ownBlock) v5 x5_1) ∧ Aside0 (Kd.R (Kd.int .i64) 3 w' w.heap.size (fun k_ => some k_ ≠ (v5 : Value).ownBlock) (.slice Ao7 t179.length co7) t179) ∧ Aside0 (Below w.heap.size w w'))
 case atStart => exact ⟨(y176), (0), kz6_8, H', ⟨Nat.le_refl _⟩, ⟨by (with_reducible repeat (first | apply Kd.R_alloc | apply Kd.R_drewN | apply Kd.R_drew)); exact Kd.R_mono HO178.out (fun _ hk => hk.2)⟩, ⟨by (with_reducible repeat (first | apply Kd.R_alloc | apply Kd.R_drewN | apply Kd.R_drew)); exact Kd.R_mono HO181.out (fun _ hk => hk.2)⟩, ⟨by repeat (first | (with_reducible first | exact HB.out | apply below_alloc | apply pw_below_drewN | apply below_drew1) | exact HB.out)⟩⟩
 case round =>
  clear H'
  try clear p2
  obtain ⟨x5_1, x14_1, rfl, HA, HK1, HO_5, HO_12, HB⟩ := hrel
  cases gk with
  | zero => exact absurd HA.out (by simp [config_enter.l0])
  | succ k1 =>
   have H := HA.out
   clear HA
   simp only [config_enter.l0] at H
   by_cases c8 : x14_1 < (t179.length : Int)
   ·rw [if_pos c8] at H
    have c8b0 : decide (x14_1 < (t179.length : Int)) = true := decide_eq_true c8
    clear c8
    by_cases c9 : 0 ≤ x14_1
    ·rw [if_pos c9] at H
     have c9b0 : decide (0 ≤ x14_1) = true := decide_eq_true c9
     clear c9
     by_cases c10 : x14_1 < (t179.length : Int)
     ·rw [if_pos c10] at H
      have c10b0 : decide (x14_1 < (t179.length : Int)) = true := decide_eq_true c10
      clear c10
      replace H := Option.bind_eq_some_iff.mp H
      obtain ⟨t183, A110, H⟩ := H
      replace H : (if x5_1.length + t183.length < 17592186044416 then ((some (x5_1 ++ t183 : List Int)).bind fun y186 => (if 0 ≤ a1 then (if a1 < (l0.length : Int) then (if (rd_T86 l0 a1).f4 = true then (config_enter.l0 k1 l0 a1 y186 t179 (t179.length : Int) (wrap64 (x14_1 + 1))) else (some y186)) else (none)) else (none))) else (none)) = some r := H
      have A11 := Aside0.mk A110
      clear A110
      by_cases c12 : x5_1.length + t183.length < 17592186044416
      ·rw [if_pos c12] at H
       have LMc12 := Aside0.mk c12
       clear c12
       obtain ⟨y186, hy186⟩ : ∃ y_ : List Int, y_ = (x5_1 ++ t183) := ⟨_, rfl⟩
       replace H : (if 0 ≤ a1 then (if a1 < (l0.length : Int) then (if (rd_T86 l0 a1).f4 = true then (config_enter.l0 k1 l0 a1 y186 t179 (t179.length : Int) (wrap64 (x14_1 + 1))) else (some y186)) else (none)) else (none)) = some r := by first | (rw [hy186]; with_reducible exact H) | (have H2_ := (Option.bind_some _ _).symm.trans H; rw [hy186]; with_reducible exact H2_) | (have H2_ := (Option.bind_some _ _).symm.trans H; with_reducible exact H2_) | with_reducible exact H | (rw [hy186]; exact H) | exact H
       have Ny186 := Aside0.mk hy186
       clear hy186
       by_cases c13 : 0 ≤ a1
       ·rw [if_pos c13] at H
        have c13b0 : decide (0 ≤ a1) = true := decide_eq_true c13
        clear c13
        by_cases c14 : a1 < (l0.length : Int)
        ·rw [if_pos c14] at H
         have c14b0 : decide (a1 < (l0.length : Int)) = true := decide_eq_true c14
         clear c14
         obtain ⟨bq15, hbq15⟩ : ∃ b_ : Bool, b_ = ((rd_T86 l0 a1).f4) := ⟨_, rfl⟩
         replace H : (if bq15 = true then (config_enter.l0 k1 l0 a1 y186 t179 (t179.length : Int) (wrap64 (x14_1 + 1))) else (some y186)) = some r := by rw [← hbq15] at H; exact H
         have Nbq15 := Aside0.mk hbq15
         clear hbq15
         by_cases c16 : bq15 = true
         ·subst c16
          have H1 : (config_enter.l0 k1 l0 a1 y186 t179 (t179.length : Int) (wrap64 (x14_1 + 1))) = some r := by rw [if_pos rfl] at H; exact H
          clear H
          have H := H1
          clear H1
          have H' := Aside0.mk H
          clear H
          have p182 : 0 ≤ (x14_1 : Int) := of_decide_eq_true kz6_3
          have q182 : x14_1 < (t179.length : Int) := of_decide_eq_true kz6_3
          obtain ⟨ad182, e182, hx182_0⟩ := Kd.at_int (Kd.R_reads' HO_12.out).2.2 x14_1 p182 q182
          cases e182
          replace p182 := eq_true p182
          replace q182 := eq_true q182
          go_wp2_with (first | ((with_reducible refine gate_callee (f := 93) rfl ?_); refine goesL_ (some 21) rfl rfl Try.func93 (by kernel_rfl) rfl #[.slice A0 l0.length c0, .int .i64 (rd t179 x14_1)] rfl kz6_2 ?_; (with_reducible refine (ih k1 (by have := HK1.out; omega) _ _ l0 (rd t179 x14_1) t183 _ ?side1 ?side2 A11.out).mono ?_); (case side1 => repeat (first | exact (Kd.C_below HR0.out HB.out) | (with_reducible refine Kd.C_alloc ?_ _) | (with_reducible refine Kd.C_drewN ?_ _) | (with_reducible refine Kd.C_drew ?_))); (case side2 => exact HC0.out); rintro e w17 ⟨v184, rfl, ho0, hb⟩; refine ⟨_, rfl, ?_⟩; have n0_ := Aside0.mk (Kd.R_elder' kz6_7 (Kd.R_base ho0) hb); have n1_ := Aside0.mk (Kd.R_elder' kz6_5 (Kd.R_base ho0) hb); have n2_ := Aside0.mk (Kd.R_lower (Kd.R_new' (Kd.R_new' ho0 (Kd.R_lt kz6_7)) (Kd.R_lt kz6_5)) (below_size kz6_1)); have n3_ := Aside0.mk (below_step kz6_1 hb); clear HO_5; clear HO_12; clear HB; have HO_5 := n0_; have HO_12 := n1_; have HO185 := n2_; have HB := n3_; clear n0_ n1_ n2_ n3_; (try clear hb); (try clear hb2); (try clear hk); (try clear hi); (try clear ho0); obtain ⟨Ao19, co19, eo19⟩ := Kd.R_slice HO185.out; subst eo19) | ((with_reducible refine gate_builtin (b := .append) (xs := #[.tmp 18, .tmp 21]) rfl ?_); at_builtin; refine Kd.R_append_rows (Kd.int .i64) (w0 := w) w.heap.size rfl (.tmp 18) (.tmp 21) 65 3 (.int .i64 0) 8 rfl Try.underlying65 info3 rfl (by decide) (by omega) u5 x5_1 t183 _ _ _ (fun k_ => some k_ ≠ (.slice (some ad182) t179.length co7 : Value).ownBlock ∧ some k_ ≠ (.slice Ao19 t183.length co19 : Value).ownBlock) (fun _ => False) rfl rfl ?aO ?aR (fun _ _ h => h) (fun _ h => h.elim) ?aF ?aB ?aS ?aL ?_; (case aR => repeat (first | exact (Kd.R_reads' HO185.out).2.2 | (with_reducible refine Kd.C_alloc ?_ _) | (with_reducible refine Kd.C_drewN ?_ _) | (with_reducible refine Kd.C_drew ?_))); (case aB => exact kz6_1); (case aF => exact (fun k_ hk => ⟨Kd.fresh' (Kd.R_lt kz6_5) k_ hk, Kd.fresh' (Kd.R_lt (by (with_reducible repeat (first | apply Kd.R_alloc | apply Kd.R_drewN | apply Kd.R_drew)); exact HO185.out)) k_ hk⟩)); (case aO => exact kz6_7); (case aS => exact (below_size kz6_1)); (case aL => have := LMc12.out; omega); intro v187 w18 ho hb hg hat; rw [← Ny186.out] at ho; have n0_ := Aside0.mk (Kd.R_after (ok := (fun k_ => some k_ ≠ (.slice Ao19 t183.length co19 : Value).ownBlock)) (by (with_reducible repeat (first | apply Kd.R_alloc | apply Kd.R_drewN | apply Kd.R_drew)); exact Kd.R_mono HO_12.out (fun _ hk => ⟨hk.2, hk.1⟩)) hg hat); have n1_ := Aside0.mk (Kd.R_after (ok := (fun k_ => some k_ ≠ (.slice (some ad182) t179.length co7 : Value).ownBlock)) (by (with_reducible repeat (first | apply Kd.R_alloc | apply Kd.R_drewN | apply Kd.R_drew)); exact Kd.R_mono HO185.out (fun _ hk => ⟨hk.2, hk.1.2⟩)) hg hat); have n2_ := Aside0.mk (hb); have n3_ := Aside0.mk (ho); clear HO_12; clear HO185; clear HB; clear HO_5; have HO_12 := n0_; have HO185 := n1_; have HB := n2_; have HO188 := n3_; clear n0_ n1_ n2_ n3_; clear ho hb hg hat; have p189 : 0 ≤ (a1 : Int) := of_decide_eq_true kz6_3; have q189 : a1 < (l0.length : Int) := of_decide_eq_true kz6_3; obtain ⟨ad189, e189, hx189_0, hx189_1, hx189_2, hx189_3, hx189_4, hx189_5, hx189_6⟩ := at_T86 HR0.out a1 p189 q189; (try rw [← Nbq15.out] at hx189_4); (try rw [← Nbq15.out] at hx189_5); (try rw [← Nbq15.out] at hx189_6); cases e189; replace hx189_0 := (HB.out.cell (World.block_lt_of_cell? w _ hx189_0)).trans hx189_0; replace hx189_1 := (HB.out.cell (World.block_lt_of_cell? w _ hx189_1)).trans hx189_1; replace hx189_2 := (HB.out.cell (World.block_lt_of_cell? w _ hx189_2)).trans hx189_2; replace hx189_3 := (HB.out.cell (World.block_lt_of_cell? w _ hx189_3)).trans hx189_3; replace hx189_4 := (HB.out.cell (World.block_lt_of_cell? w _ hx189_4)).trans hx189_4; replace hx189_5 := (HB.out.cell (World.block_lt_of_cell? w _ hx189_5)).trans hx189_5; replace hx189_6 := (HB.out.cell (World.block_lt_of_cell? w _ hx189_6)).trans hx189_6; replace p189 := eq_true p189; replace q189 := eq_true q189))
          go_roundg k1
          case measure => have := HK1.out; omega
          case rel => exact ⟨(y186), (wrap64 (x14_1 + 1)), kz6_8, H', ⟨by have := HK1.out; omega⟩, ⟨by (with_reducible repeat (first | apply Kd.R_alloc | apply Kd.R_drewN | apply Kd.R_drew)); exact Kd.R_mono HO188.out (fun _ hk => hk.1)⟩, ⟨by (with_reducible repeat (first | apply Kd.R_alloc | apply Kd.R_drewN | apply Kd.R_drew)); exact Kd.R_mono HO_12.out (fun _ hk => hk.2)⟩, ⟨by repeat (first | (with_reducible first | exact HB.out | apply below_alloc | apply pw_below_drewN | apply below_drew1) | exact HB.out)⟩⟩
         ·replace c16 := Bool.eq_false_iff.mpr c16
          subst c16
          have H1 : (some y186) = some r := by rw [if_neg (show ¬ (false = true) by decide)] at H; exact H
          clear H
          have H := H1
          clear H1
          obtain rfl := Option.some.inj H
          have p182 : 0 ≤ (x14_1 : Int) := of_decide_eq_true kz6_3
          have q182 : x14_1 < (t179.length : Int) := of_decide_eq_true kz6_3
          obtain ⟨ad182, e182, hx182_0⟩ := Kd.at_int (Kd.R_reads' HO_12.out).2.2 x14_1 p182 q182
          cases e182
          replace p182 := eq_true p182
          replace q182 := eq_true q182
          go_wp2_with (first | ((with_reducible refine gate_callee (f := 93) rfl ?_); refine goesL_ (some 21) rfl rfl Try.func93 (by kernel_rfl) rfl #[.slice A0 l0.length c0, .int .i64 (rd t179 x14_1)] rfl kz6_2 ?_; (with_reducible refine (ih k1 (by have := HK1.out; omega) _ _ l0 (rd t179 x14_1) t183 _ ?side1 ?side2 A11.out).mono ?_); (case side1 => repeat (first | exact (Kd.C_below HR0.out HB.out) | (with_reducible refine Kd.C_alloc ?_ _) | (with_reducible refine Kd.C_drewN ?_ _) | (with_reducible refine Kd.C_drew ?_))); (case side2 => exact HC0.out); rintro e w20 ⟨v184, rfl, ho0, hb⟩; refine ⟨_, rfl, ?_⟩; have n0_ := Aside0.mk (Kd.R_elder' kz6_7 (Kd.R_base ho0) hb); have n1_ := Aside0.mk (Kd.R_elder' kz6_5 (Kd.R_base ho0) hb); have n2_ := Aside0.mk (Kd.R_lower (Kd.R_new' (Kd.R_new' ho0 (Kd.R_lt kz6_7)) (Kd.R_lt kz6_5)) (below_size kz6_1)); have n3_ := Aside0.mk (below_step kz6_1 hb); clear HO_5; clear HO_12; clear HB; have HO_5 := n0_; have HO_12 := n1_; have HO185 := n2_; have HB := n3_; clear n0_ n1_ n2_ n3_; (try clear hb); (try clear hb2); (try clear hk); (try clear hi); (try clear ho0); obtain ⟨Ao22, co22, eo22⟩ := Kd.R_slice HO185.out; subst eo22) | ((with_reducible refine gate_builtin (b := .append) (xs := #[.tmp 18, .tmp 21]) rfl ?_); at_builtin; refine Kd.R_append_rows (Kd.int .i64) (w0 := w) w.heap.size rfl (.tmp 18) (.tmp 21) 65 3 (.int .i64 0) 8 rfl Try.underlying65 info3 rfl (by decide) (by omega) u5 x5_1 t183 _ _ _ (fun k_ => some k_ ≠ (.slice (some ad182) t179.length co7 : Value).ownBlock ∧ some k_ ≠ (.slice Ao22 t183.length co22 : Value).ownBlock) (fun _ => False) rfl rfl ?aO ?aR (fun _ _ h => h) (fun _ h => h.elim) ?aF ?aB ?aS ?aL ?_; (case aR => repeat (first | exact (Kd.R_reads' HO185.out).2.2 | (with_reducible refine Kd.C_alloc ?_ _) | (with_reducible refine Kd.C_drewN ?_ _) | (with_reducible refine Kd.C_drew ?_))); (case aB => exact kz6_1); (case aF => exact (fun k_ hk => ⟨Kd.fresh' (Kd.R_lt kz6_5) k_ hk, Kd.fresh' (Kd.R_lt (by (with_reducible repeat (first | apply Kd.R_alloc | apply Kd.R_drewN | apply Kd.R_drew)); exact HO185.out)) k_ hk⟩)); (case aO => exact kz6_7); (case aS => exact (below_size kz6_1)); (case aL => have := LMc12.out; omega); intro v187 w21 ho hb hg hat; rw [← Ny186.out] at ho; have n0_ := Aside0.mk (Kd.R_after (ok := (fun k_ => some k_ ≠ (.slice Ao22 t183.length co22 : Value).ownBlock)) (by (with_reducible repeat (first | apply Kd.R_alloc | apply Kd.R_drewN | apply Kd.R_drew)); exact Kd.R_mono HO_12.out (fun _ hk => ⟨hk.2, hk.1⟩)) hg hat); have n1_ := Aside0.mk (Kd.R_after (ok := (fun k_ => some k_ ≠ (.slice (some ad182) t179.length co7 : Value).ownBlock)) (by (with_reducible repeat (first | apply Kd.R_alloc | apply Kd.R_drewN | apply Kd.R_drew)); exact Kd.R_mono HO185.out (fun _ hk => ⟨hk.2, hk.1.2⟩)) hg hat); have n2_ := Aside0.mk (hb); have n3_ := Aside0.mk (ho); clear HO_12; clear HO185; clear HB; clear HO_5; have HO_12 := n0_; have HO185 := n1_; have HB := n2_; have HO188 := n3_; clear n0_ n1_ n2_ n3_; clear ho hb hg hat; have p189 : 0 ≤ (a1 : Int) := of_decide_eq_true kz6_3; have q189 : a1 < (l0.length : Int) := of_decide_eq_true kz6_3; obtain ⟨ad189, e189, hx189_0, hx189_1, hx189_2, hx189_3, hx189_4, hx189_5, hx189_6⟩ := at_T86 HR0.out a1 p189 q189; (try rw [← Nbq15.out] at hx189_4); (try rw [← Nbq15.out] at hx189_5); (try rw [← Nbq15.out] at hx189_6); cases e189; replace hx189_0 := (HB.out.cell (World.block_lt_of_cell? w _ hx189_0)).trans hx189_0; replace hx189_1 := (HB.out.cell (World.block_lt_of_cell? w _ hx189_1)).trans hx189_1; replace hx189_2 := (HB.out.cell (World.block_lt_of_cell? w _ hx189_2)).trans hx189_2; replace hx189_3 := (HB.out.cell (World.block_lt_of_cell? w _ hx189_3)).trans hx189_3; replace hx189_4 := (HB.out.cell (World.block_lt_of_cell? w _ hx189_4)).trans hx189_4; replace hx189_5 := (HB.out.cell (World.block_lt_of_cell? w _ hx189_5)).trans hx189_5; replace hx189_6 := (HB.out.cell (World.block_lt_of_cell? w _ hx189_6)).trans hx189_6; replace p189 := eq_true p189; replace q189 := eq_true q189))
          go_ret
          exact ⟨_, by first | rfl | (simp [errW_none, errW_some] <;> rfl) | (simp [*, errW_none, errW_some] <;> rfl), by (with_reducible repeat (first | apply Kd.R_alloc | apply Kd.R_drewN | apply Kd.R_drew)); exact Kd.R_mono HO188.out (fun _ hk => trivial), by repeat (first | (with_reducible first | exact HB.out | apply below_alloc | apply pw_below_drewN | apply below_drew1) | exact HB.out)⟩
        ·rw [if_neg c14] at H
         exact absurd H (by simp)
       ·rw [if_neg c13] at H
        exact absurd H (by simp)
      ·rw [if_neg c12] at H
       exact absurd H (by simp)
     ·rw [if_neg c10] at H
      exact absurd H (by simp)
    ·rw [if_neg c9] at H
     exact absurd H (by simp)
   ·rw [if_neg c8] at H
    have c8b0 : decide (x14_1 < (t179.length : Int)) = false := decide_eq_false c8
    clear c8
    obtain rfl := Option.some.inj H
    go_wp2
    go_ret
    exact ⟨_, by first | rfl | (simp [errW_none, errW_some] <;> rfl) | (simp [*, errW_none, errW_some] <;> rfl), by (with_reducible repeat (first | apply Kd.R_alloc | apply Kd.R_drewN | apply Kd.R_drew)); exact Kd.R_mono HO_5.out (fun _ hk => trivial), by repeat (first | (with_reducible first | exact HB.out | apply below_alloc | apply pw_below_drewN | apply below_drew1) | exact HB.out)⟩

/-! ### config_toward: function 95 -/
mutual
def config_toward.l0 : Nat → List (S86) → Int → Int → List Int → List Int → Int → Int → Option (List Int)
 | 0, _, _, _, _, _, _, _ => none
 | k + 1, x0, x1, x2, x7, x20, x21, x22 => if x22 < x21 then (if 0 ≤ x22 then (if x22 < (x20.length : Int) then (if (rd x20 x22) ≤ x2 then (if 0 ≤ (rd x20 x22) then (if (rd x20 x22) < (x0.length : Int) then (config_toward.j1 k x0 x1 x2 x7 (rd x20 x22) x20 x21 x22 (decide (x2 < ((rd_T86 x0 (rd x20 x22)).f3)))) else (none)) else (none)) else (config_toward.j1 k x0 x1 x2 x7 (rd x20 x22) x20 x21 x22 false)) else (none)) else (none)) else (some x7)
def config_toward.j1 : Nat → List (S86) → Int → Int → List Int → Int → List Int → Int → Int → Bool → Option (List Int)
 | 0, _, _, _, _, _, _, _, _, _ => none
 | k + 1, x0, x1, x2, x7, x9, x20, x21, x22, x26 => if x26 = true then ((config_toward.f k x0 x9 x2).bind fun t201 => (if x7.length + t201.length < 17592186044416 then (config_toward.l0 k x0 x1 x2 (x7 ++ t201) x20 x21 (wrap64 (x22 + 1))) else (none))) else (if 0 ≤ x1 then (if x1 < (x0.length : Int) then (if (rd_T86 x0 x1).f4 = true then ((config_enter.f k x0 x9).bind fun t208 => (if x7.length + t208.length < 17592186044416 then (config_toward.l0 k x0 x1 x2 (x7 ++ t208) x20 x21 (wrap64 (x22 + 1))) else (none))) else (config_toward.l0 k x0 x1 x2 x7 x20 x21 (wrap64 (x22 + 1)))) else (none)) else (none))
def config_toward.f : Nat → List (S86) → Int → Int → Option (List Int)
 | 0, _, _, _ => none
 | k + 1, l0, a1, a2 => if a1 = a2 then ((config_enter.f k l0 a2).bind fun t190 => (some t190)) else ((tree_Inner.f k l0 a1).bind fun t196 => (config_toward.l0 k l0 a1 a2 (([a1] : List Int)) t196 (t196.length : Int) 0))
end
theorem config_toward.mono_l : ∀ k, (∀ y0 y1 y2, LeO (config_toward.f k y0 y1 y2) (config_toward.f (k + 1) y0 y1 y2)) ∧ (∀ y0 y1 y2 y3 y4 y5 y6, LeO (config_toward.l0 k y0 y1 y2 y3 y4 y5 y6) (config_toward.l0 (k + 1) y0 y1 y2 y3 y4 y5 y6)) ∧ (∀ y0 y1 y2 y3 y4 y5 y6 y7 y8, LeO (config_toward.j1 k y0 y1 y2 y3 y4 y5 y6 y7 y8) (config_toward.j1 (k + 1) y0 y1 y2 y3 y4 y5 y6 y7 y8))
 | 0 => ⟨fun _ _ _ r h => by simp [config_toward.f] at h, fun _ _ _ _ _ _ _ r h => by simp [config_toward.l0] at h, fun _ _ _ _ _ _ _ _ _ r h => by simp [config_toward.j1] at h⟩
 | k + 1 => by
  obtain ⟨ih0, ih1, ih2⟩ := config_toward.mono_l k
  refine ⟨?_, ?_, ?_⟩
  ·intro y0 y1 y2
   unfold config_toward.f
   repeat' first
   | (with_reducible exact ih0 _ _ _)
   | (with_reducible exact ih1 _ _ _ _ _ _ _)
   | (with_reducible exact ih2 _ _ _ _ _ _ _ _ _)
   | (with_reducible exact config_enter.mono _ _ _)
   | (with_reducible exact tree_Inner.mono _ _ _)
   | (with_reducible exact LeO.refl _)
   | (with_reducible exact LeO.none _)
   | (with_reducible refine LeO.ite ?_ ?_)
   | (with_reducible refine LeO.bind ?_ (fun _ => ?_))
   | exact ih0 _ _ _
   | exact ih1 _ _ _ _ _ _ _
   | exact ih2 _ _ _ _ _ _ _ _ _
   | exact config_enter.mono _ _ _
   | exact tree_Inner.mono _ _ _
   | exact LeO.none _
   | refine LeO.ite ?_ ?_
   | refine LeO.bind ?_ (fun _ => ?_)
  ·intro y0 y1 y2 y3 y4 y5 y6
   unfold config_toward.l0
   repeat' first
   | (with_reducible exact ih0 _ _ _)
   | (with_reducible exact ih1 _ _ _ _ _ _ _)
   | (with_reducible exact ih2 _ _ _ _ _ _ _ _ _)
   | (with_reducible exact config_enter.mono _ _ _)
   | (with_reducible exact tree_Inner.mono _ _ _)
   | (with_reducible exact LeO.refl _)
   | (with_reducible exact LeO.none _)
   | (with_reducible refine LeO.ite ?_ ?_)
   | (with_reducible refine LeO.bind ?_ (fun _ => ?_))
   | exact ih0 _ _ _
   | exact ih1 _ _ _ _ _ _ _
   | exact ih2 _ _ _ _ _ _ _ _ _
   | exact config_enter.mono _ _ _
   | exact tree_Inner.mono _ _ _
   | exact LeO.none _
   | refine LeO.ite ?_ ?_
   | refine LeO.bind ?_ (fun _ => ?_)
  ·intro y0 y1 y2 y3 y4 y5 y6 y7 y8
   unfold config_toward.j1
   repeat' first
   | (with_reducible exact ih0 _ _ _)
   | (with_reducible exact ih1 _ _ _ _ _ _ _)
   | (with_reducible exact ih2 _ _ _ _ _ _ _ _ _)
   | (with_reducible exact config_enter.mono _ _ _)
   | (with_reducible exact tree_Inner.mono _ _ _)
   | (with_reducible exact LeO.refl _)
   | (with_reducible exact LeO.none _)
   | (with_reducible refine LeO.ite ?_ ?_)
   | (with_reducible refine LeO.bind ?_ (fun _ => ?_))
   | exact ih0 _ _ _
   | exact ih1 _ _ _ _ _ _ _
   | exact ih2 _ _ _ _ _ _ _ _ _
   | exact config_enter.mono _ _ _
   | exact tree_Inner.mono _ _ _
   | exact LeO.none _
   | refine LeO.ite ?_ ?_
   | refine LeO.bind ?_ (fun _ => ?_)
theorem config_toward.mono : ∀ a0 a1 a2 k, LeO (config_toward.f k a0 a1 a2) (config_toward.f (k + 1) a0 a1 a2) := by
 intro a0 a1 a2 k
 obtain ⟨ih0, ih1, ih2⟩ := config_toward.mono_l k
 exact ih0 a0 a1 a2
set_option maxHeartbeats 8000000 in
set_option maxRecDepth 100000 in
theorem config_toward.calls (k : Nat) : ∀ (A0 : Option Addr) (c0 : Nat) (l0 : List (S86)) (a1 : Int) (a2 : Int) (r : List Int) (w : World) (hr0 : Kd.C k86 w A0 l0.length l0) (hc0 : l0.length ≤ c0) (h : config_toward.f k l0 a1 a2 = some r),
  Calls Try.prog 95 #[.slice A0 l0.length c0, .int .i64 a1, .int .i64 a2] w fun e w' => ∃ v0_ : Value, e = .returned (v0_) ∧ Kd.R (Kd.int .i64) 3 w' w.heap.size (fun _ => True) v0_ r ∧ Below w.heap.size w w' := by
 induction k using Nat.strongRecOn with
 | _ k ih =>
 intro A0 c0 l0 a1 a2 r w hr0 hc0 h
 cases k with
 | zero => exact absurd h (by simp [config_toward.f])
 | succ k =>
 simp only [config_toward.f] at h
 have HR0 := Aside0.mk hr0
 have HC0 := Aside0.mk hc0
 clear hr0 hc0
 have HB := Aside0.mk (Below.refl w.heap.size w)
 have H : (if a1 = a2 then ((config_enter.f k l0 a2).bind fun t190 => (some t190)) else ((tree_Inner.f k l0 a1).bind fun t196 => (config_toward.l0 k l0 a1 a2 (([a1] : List Int)) t196 (t196.length : Int) 0))) = some r := h
 clear h
 by_cases c4 : a1 = a2
 ·rw [if_pos c4] at H
  have c4b0 : (a1 == a2) = true := beq_iff_eq.mpr c4
  have c4b1 : (a1 != a2) = false := bne_eq_false_iff_eq.mpr c4
  clear c4
  replace H := Option.bind_eq_some_iff.mp H
  obtain ⟨t190, A50, H⟩ := H
  replace H : (some t190) = some r := H
  have A5 := Aside0.mk A50
  clear A50
  obtain rfl := Option.some.inj H
  go_enter Try.func95, Try.ntmps95
  go_wp2_with (first | ((with_reducible refine gate_callee (f := 93) rfl ?_); refine goesL_ (some 15) rfl rfl Try.func93 (by kernel_rfl) rfl #[.slice A0 l0.length c0, .int .i64 a2] rfl kz6_2 ?_; (with_reducible refine (config_enter.calls k _ _ l0 a2 t190 _ ?side1 ?side2 A5.out).mono ?_); (case side1 => repeat (first | exact HR0.out | (with_reducible refine Kd.C_alloc ?_ _) | (with_reducible refine Kd.C_drewN ?_ _) | (with_reducible refine Kd.C_drew ?_))); (case side2 => exact HC0.out); rintro e w6 ⟨v191, rfl, ho0, hb⟩; refine ⟨_, rfl, ?_⟩; have n0_ := Aside0.mk (Kd.R_lower ho0 (below_size kz6_1)); have n1_ := Aside0.mk (below_step kz6_1 hb); clear HB; have HO192 := n0_; have HB := n1_; clear n0_ n1_; (try clear hb); (try clear hb2); (try clear hk); (try clear hi); (try clear ho0)))
  go_ret
  exact ⟨_, by first | rfl | (simp [errW_none, errW_some] <;> rfl) | (simp [*, errW_none, errW_some] <;> rfl), by (with_reducible repeat (first | apply Kd.R_alloc | apply Kd.R_drewN | apply Kd.R_drew)); exact HO192.out, by repeat (first | (with_reducible first | exact HB.out | apply below_alloc | apply pw_below_drewN | apply below_drew1) | exact HB.out)⟩
 ·rw [if_neg c4] at H
  have c4b0 : (a1 == a2) = false := beq_eq_false_iff_ne.mpr c4
  have c4b1 : (a1 != a2) = true := bne_iff_ne.mpr c4
  obtain ⟨y193, hy193⟩ : ∃ y_ : List Int, y_ = (([a1] : List Int)) := ⟨_, rfl⟩
  replace H : ((tree_Inner.f k l0 a1).bind fun t196 => (config_toward.l0 k l0 a1 a2 y193 t196 (t196.length : Int) 0)) = some r := by first | (rw [hy193]; with_reducible exact H) | (have H2_ := (Option.bind_some _ _).symm.trans H; rw [hy193]; with_reducible exact H2_) | (have H2_ := (Option.bind_some _ _).symm.trans H; with_reducible exact H2_) | with_reducible exact H | (rw [hy193]; exact H) | exact H
  have Ny193 := Aside0.mk hy193
  clear hy193
  replace H := Option.bind_eq_some_iff.mp H
  obtain ⟨t196, A70, H⟩ := H
  replace H : (config_toward.l0 k l0 a1 a2 y193 t196 (t196.length : Int) 0) = some r := H
  have A7 := Aside0.mk A70
  clear A70
  have H' := Aside0.mk H
  clear H
  go_enter Try.func95, Try.ntmps95
  go_wp2_with (first | ((with_reducible refine gate_dst (N := 17) rfl ?_); refine Kd.R_lit (Kd.int .i64) _ 3 ?hg (N := 17) ?hd (xs := ([a1] : List Int)) (inner := [.int .i64 a1]) (ok := fun _ => True) (okp := fun _ => True) ?hr ?hp (fun _ hk => hk) trivial (Below.refl _ _) (Nat.le_refl _) (by simp) ?_; (case hd => rfl); (case hg => rfl); (case hr => first | (go_simp; done) | (go_simp; rfl)); (case hp => exact (Reps.one (show Kd.M (Kd.int .i64) _ _ _ a1 [.int .i64 a1] from rfl) (Reps.none _ _))); intro v194 w8 ho9 hb hg_ hnew_; clear hg_ hnew_; (first | rw [← Ny193.out] at ho9 | (simp only [Int.reduceToNat] at ho9; rw [← Ny193.out] at ho9)); have n0_ := Aside0.mk (Kd.R_lower ho9 (below_size kz6_1)); have n1_ := Aside0.mk (below_step kz6_1 hb); clear HB; have HO195 := n0_; have HB := n1_; clear n0_ n1_; clear hb ho9) | ((with_reducible refine gate_callee (f := 85) rfl ?_); refine goesL_ (some 20) rfl rfl Try.func85 (by kernel_rfl) rfl #[.slice A0 l0.length c0, .int .i64 a1] rfl kz6_2 ?_; (with_reducible refine (tree_Inner.calls k _ _ l0 a1 t196 _ ?side1 ?side2 A7.out).mono ?_); (case side1 => repeat (first | exact (Kd.C_below HR0.out HB.out) | (with_reducible refine Kd.C_alloc ?_ _) | (with_reducible refine Kd.C_drewN ?_ _) | (with_reducible refine Kd.C_drew ?_))); (case side2 => exact HC0.out); rintro e w10 ⟨v197, rfl, ho0, hb⟩; refine ⟨_, rfl, ?_⟩; have n0_ := Aside0.mk (Kd.R_elder' (by (with_reducible repeat (first | apply Kd.R_alloc | apply Kd.R_drewN | apply Kd.R_drew)); exact HO195.out) (Kd.R_base ho0) hb); have n1_ := Aside0.mk (Kd.R_lower (Kd.R_new' ho0 (Kd.R_lt (by (with_reducible repeat (first | apply Kd.R_alloc | apply Kd.R_drewN | apply Kd.R_drew)); exact HO195.out))) (below_size kz6_1)); have n2_ := Aside0.mk (below_step kz6_1 hb); clear HO195; clear HB; have HO195 := n0_; have HO198 := n1_; have HB := n2_; clear n0_ n1_ n2_; (try clear hb); (try clear hb2); (try clear hk); (try clear hi); (try clear ho0); obtain ⟨Ao11, co11, eo11⟩ := Kd.R_slice HO198.out; subst eo11))
  go_loopg [7, 22] k (fun kq v7 v22 w' => ∃ (x7_1 : List Int) (x22_1 : Int), v22 = .int .i64 x22_1 ∧ Aside0 (config_toward.l0 kq l0 a1 a2 x7_1 t196 (t196.length : Int) x22_1 = some r) ∧ Aside0 (kq ≤ k) ∧ Aside0 (Kd.R (Kd.int .i64) 3 w' w.heap.size (fun k_ => some k_ ≠ ((.slice Ao11 t196.length co11) : Value).ownBlock) v7 x7_1) ∧ Aside0 (Kd.R (Kd.int .i64) 3 w' w.heap.size (fun k_ => some k_ ≠ (v7 : Value).ownBlock) (.slice Ao11 t196.length co11) t196) ∧ Aside0 (Below w.heap.size w w'))
  case atStart => exact ⟨(y193), (0), kz6_8, H', ⟨Nat.le_refl _⟩, ⟨by (with_reducible repeat (first | apply Kd.R_alloc | apply Kd.R_drewN | apply Kd.R_drew)); exact Kd.R_mono HO195.out (fun _ hk => hk.2)⟩, ⟨by (with_reducible repeat (first | apply Kd.R_alloc | apply Kd.R_drewN | apply Kd.R_drew)); exact Kd.R_mono HO198.out (fun _ hk => hk.2)⟩, ⟨by repeat (first | (with_reducible first | exact HB.out | apply below_alloc | apply pw_below_drewN | apply below_drew1) | exact HB.out)⟩⟩
  case round =>
   clear H'
   try clear p2
   try clear c4
   try clear c4b0
   try clear c4b1
   try clear c8
   try clear c9
   obtain ⟨x7_1, x22_1, rfl, HA, HK1, HO_7, HO_20, HB⟩ := hrel
   cases gk with
   | zero => exact absurd HA.out (by simp [config_toward.l0])
   | succ k1 =>
    have H := HA.out
    clear HA
    simp only [config_toward.l0] at H
    by_cases c12 : x22_1 < (t196.length : Int)
    ·rw [if_pos c12] at H
     have c12b0 : decide (x22_1 < (t196.length : Int)) = true := decide_eq_true c12
     clear c12
     by_cases c13 : 0 ≤ x22_1
     ·rw [if_pos c13] at H
      have c13b0 : decide (0 ≤ x22_1) = true := decide_eq_true c13
      clear c13
      by_cases c14 : x22_1 < (t196.length : Int)
      ·rw [if_pos c14] at H
       have c14b0 : decide (x22_1 < (t196.length : Int)) = true := decide_eq_true c14
       clear c14
       have HC15 := Aside0.mk H
       clear H
       have p199 : 0 ≤ (x22_1 : Int) := of_decide_eq_true kz6_3
       have q199 : x22_1 < (t196.length : Int) := of_decide_eq_true kz6_3
       obtain ⟨ad199, e199, hx199_0⟩ := Kd.at_int (Kd.R_reads' HO_20.out).2.2 x22_1 p199 q199
       cases e199
       replace p199 := eq_true p199
       replace q199 := eq_true q199
       go_upto_region 7 with (fail)
       go_cut [26] (fun v26 wc => ∃ (kq : Nat) (x26_14 : Bool), v26 = .bool x26_14 ∧ Aside0 (config_toward.j1 kq l0 a1 a2 x7_1 (rd t196 x22_1) t196 (t196.length : Int) x22_1 x26_14 = some r) ∧ Aside0 (kq ≤ k1) ∧ Aside0 (Kd.R (Kd.int .i64) 3 wc w.heap.size (fun k_ => some k_ ≠ ((.slice (some ad199) t196.length co11) : Value).ownBlock) u7 x7_1) ∧ Aside0 (Kd.R (Kd.int .i64) 3 wc w.heap.size (fun k_ => some k_ ≠ (u7 : Value).ownBlock) (.slice (some ad199) t196.length co11) t196) ∧ Aside0 (Below w.heap.size w wc))
       case first =>
        have H := HC15.out
        clear HC15
        by_cases c16 : (rd t196 x22_1) ≤ a2
        ·rw [if_pos c16] at H
         have c16b0 : decide ((rd t196 x22_1) ≤ a2) = true := decide_eq_true c16
         clear c16
         (first | rw [c16b0] | (simp only [i64_w, i32_w]; rw [c16b0]) | skip)
         by_cases c17 : 0 ≤ (rd t196 x22_1)
         ·rw [if_pos c17] at H
          have c17b0 : decide (0 ≤ (rd t196 x22_1)) = true := decide_eq_true c17
          clear c17
          by_cases c18 : (rd t196 x22_1) < (l0.length : Int)
          ·rw [if_pos c18] at H
           have c18b0 : decide ((rd t196 x22_1) < (l0.length : Int)) = true := decide_eq_true c18
           clear c18
           have H' := Aside0.mk H
           clear H
           have p200 : 0 ≤ ((rd t196 x22_1) : Int) := of_decide_eq_true kz6_3
           have q200 : (rd t196 x22_1) < (l0.length : Int) := of_decide_eq_true kz6_3
           obtain ⟨ad200, e200, hx200_0, hx200_1, hx200_2, hx200_3, hx200_4, hx200_5, hx200_6⟩ := at_T86 HR0.out (rd t196 x22_1) p200 q200
           cases e200
           replace hx200_0 := (HB.out.cell (World.block_lt_of_cell? w _ hx200_0)).trans hx200_0
           replace hx200_1 := (HB.out.cell (World.block_lt_of_cell? w _ hx200_1)).trans hx200_1
           replace hx200_2 := (HB.out.cell (World.block_lt_of_cell? w _ hx200_2)).trans hx200_2
           replace hx200_3 := (HB.out.cell (World.block_lt_of_cell? w _ hx200_3)).trans hx200_3
           replace hx200_4 := (HB.out.cell (World.block_lt_of_cell? w _ hx200_4)).trans hx200_4
           replace hx200_5 := (HB.out.cell (World.block_lt_of_cell? w _ hx200_5)).trans hx200_5
           replace hx200_6 := (HB.out.cell (World.block_lt_of_cell? w _ hx200_6)).trans hx200_6
           replace p200 := eq_true p200
           replace q200 := eq_true q200
           go_wp2
           go_meet
           case rel => exact ⟨_, (decide (a2 < ((rd_T86 l0 (rd t196 x22_1)).f3))), kz6_8, H', ⟨by have := HK1.out; first | omega | exact Nat.le_refl _⟩, ⟨by (with_reducible repeat (first | apply Kd.R_alloc | apply Kd.R_drewN | apply Kd.R_drew)); exact HO_7.out⟩, ⟨by (with_reducible repeat (first | apply Kd.R_alloc | apply Kd.R_drewN | apply Kd.R_drew)); exact HO_20.out⟩, ⟨by repeat (first | (with_reducible first | exact HB.out | apply below_alloc | apply pw_below_drewN | apply below_drew1) | exact HB.out)⟩⟩
          ·rw [if_neg c18] at H
           exact absurd H (by simp)
         ·rw [if_neg c17] at H
          exact absurd H (by simp)
        ·rw [if_neg c16] at H
         have c16b0 : decide ((rd t196 x22_1) ≤ a2) = false := decide_eq_false c16
         clear c16
         (first | rw [c16b0] | (simp only [i64_w, i32_w]; rw [c16b0]) | skip)
         have H' := Aside0.mk H
         clear H
         go_wp2
         go_meet
         case rel => exact ⟨_, (false), kz6_8, H', ⟨by have := HK1.out; first | omega | exact Nat.le_refl _⟩, ⟨by (with_reducible repeat (first | apply Kd.R_alloc | apply Kd.R_drewN | apply Kd.R_drew)); exact HO_7.out⟩, ⟨by (with_reducible repeat (first | apply Kd.R_alloc | apply Kd.R_drewN | apply Kd.R_drew)); exact HO_20.out⟩, ⟨by repeat (first | (with_reducible first | exact HB.out | apply below_alloc | apply pw_below_drewN | apply below_drew1) | exact HB.out)⟩⟩
       case rest =>
        clear HC15
        try clear c1
        try clear p1
        try clear q1
        try clear hx1
        try clear p2
        try clear q2
        try clear hx2
        try clear c4
        try clear c4b0
        try clear c4b1
        try clear c8
        try clear c9
        try clear c12
        try clear c12b0
        try clear c13
        try clear c13b0
        try clear c14
        try clear c14b0
        try clear c16
        try clear c16b0
        try clear c17
        try clear c17b0
        try clear c18
        try clear c18b0
        try clear hx199_0
        try clear hx200_0
        try clear hx200_1
        try clear hx200_2
        try clear hx200_3
        try clear hx200_4
        try clear hx200_5
        try clear hx200_6
        try clear p199
        try clear p2
        try clear p200
        try clear q199
        try clear q200
        obtain ⟨kq, x26_14, rfl, HA, HJ14, HO_7, HO_20, HB⟩ := hcut
        cases kq with
        | zero => exact absurd HA.out (by simp [config_toward.j1])
        | succ kj14 =>
         have H := HA.out
         clear HA
         simp only [config_toward.j1] at H
         by_cases c19 : x26_14 = true
         ·subst c19
          have H1 : ((config_toward.f kj14 l0 (rd t196 x22_1) a2).bind fun t201 => (if x7_1.length + t201.length < 17592186044416 then (config_toward.l0 kj14 l0 a1 a2 (x7_1 ++ t201) t196 (t196.length : Int) (wrap64 (x22_1 + 1))) else (none))) = some r := by rw [if_pos rfl] at H; exact H
          clear H
          have H := H1
          clear H1
          replace H := Option.bind_eq_some_iff.mp H
          obtain ⟨t201, A200, H⟩ := H
          replace H : (if x7_1.length + t201.length < 17592186044416 then (config_toward.l0 kj14 l0 a1 a2 (x7_1 ++ t201) t196 (t196.length : Int) (wrap64 (x22_1 + 1))) else (none)) = some r := H
          have A20 := Aside0.mk A200
          clear A200
          by_cases c21 : x7_1.length + t201.length < 17592186044416
          ·rw [if_pos c21] at H
           have LMc21 := Aside0.mk c21
           clear c21
           obtain ⟨y204, hy204⟩ : ∃ y_ : List Int, y_ = (x7_1 ++ t201) := ⟨_, rfl⟩
           replace H : (config_toward.l0 kj14 l0 a1 a2 y204 t196 (t196.length : Int) (wrap64 (x22_1 + 1))) = some r := by first | (rw [hy204]; with_reducible exact H) | (have H2_ := (Option.bind_some _ _).symm.trans H; rw [hy204]; with_reducible exact H2_) | (have H2_ := (Option.bind_some _ _).symm.trans H; with_reducible exact H2_) | with_reducible exact H | (rw [hy204]; exact H) | exact H
           have Ny204 := Aside0.mk hy204
           clear hy204
           have H' := Aside0.mk H
           clear H
           go_wp2_with (first | ((with_reducible refine gate_callee (f := 95) rfl ?_); refine goesL_ (some 43) rfl rfl Try.func95 (by kernel_rfl) rfl #[.slice A0 l0.length c0, .int .i64 (rd t196 x22_1), .int .i64 a2] rfl kz6_2 ?_; (with_reducible refine (ih kj14 (by have := HK1.out; have := HJ14.out; omega) _ _ l0 (rd t196 x22_1) a2 t201 _ ?side1 ?side2 A20.out).mono ?_); (case side1 => repeat (first | exact (Kd.C_below HR0.out HB.out) | (with_reducible refine Kd.C_alloc ?_ _) | (with_reducible refine Kd.C_drewN ?_ _) | (with_reducible refine Kd.C_drew ?_))); (case side2 => exact HC0.out); rintro e w22 ⟨v202, rfl, ho0, hb⟩; refine ⟨_, rfl, ?_⟩; have n0_ := Aside0.mk (Kd.R_elder' kz6_6 (Kd.R_base ho0) hb); have n1_ := Aside0.mk (Kd.R_elder' kz6_4 (Kd.R_base ho0) hb); have n2_ := Aside0.mk (Kd.R_lower (Kd.R_new' (Kd.R_new' ho0 (Kd.R_lt kz6_6)) (Kd.R_lt kz6_4)) (below_size kz6_1)); have n3_ := Aside0.mk (below_step kz6_1 hb); clear HO_7; clear HO_20; clear HB; have HO_7 := n0_; have HO_20 := n1_; have HO203 := n2_; have HB := n3_; clear n0_ n1_ n2_ n3_; (try clear hb); (try clear hb2); (try clear hk); (try clear hi); (try clear ho0); obtain ⟨Ao24, co24, eo24⟩ := Kd.R_slice HO203.out; subst eo24) | ((with_reducible refine gate_builtin (b := .append) (xs := #[.tmp 39, .tmp 43]) rfl ?_); at_builtin; refine Kd.R_append_rows (Kd.int .i64) (w0 := w) w.heap.size rfl (.tmp 39) (.tmp 43) 65 3 (.int .i64 0) 8 rfl Try.underlying65 info3 rfl (by decide) (by omega) u7 x7_1 t201 _ _ _ (fun k_ => some k_ ≠ (.slice (some ad199) t196.length co11 : Value).ownBlock ∧ some k_ ≠ (.slice Ao24 t201.length co24 : Value).ownBlock) (fun _ => False) rfl rfl ?aO ?aR (fun _ _ h => h) (fun _ h => h.elim) ?aF ?aB ?aS ?aL ?_; (case aR => repeat (first | exact (Kd.R_reads' HO203.out).2.2 | (with_reducible refine Kd.C_alloc ?_ _) | (with_reducible refine Kd.C_drewN ?_ _) | (with_reducible refine Kd.C_drew ?_))); (case aB => exact kz6_1); (case aF => exact (fun k_ hk => ⟨Kd.fresh' (Kd.R_lt kz6_4) k_ hk, Kd.fresh' (Kd.R_lt (by (with_reducible repeat (first | apply Kd.R_alloc | apply Kd.R_drewN | apply Kd.R_drew)); exact HO203.out)) k_ hk⟩)); (case aO => exact kz6_6); (case aS => exact (below_size kz6_1)); (case aL => have := LMc21.out; omega); intro v205 w23 ho hb hg hat; rw [← Ny204.out] at ho; have n0_ := Aside0.mk (Kd.R_after (ok := (fun k_ => some k_ ≠ (.slice Ao24 t201.length co24 : Value).ownBlock)) (by (with_reducible repeat (first | apply Kd.R_alloc | apply Kd.R_drewN | apply Kd.R_drew)); exact Kd.R_mono HO_20.out (fun _ hk => ⟨hk.2, hk.1⟩)) hg hat); have n1_ := Aside0.mk (Kd.R_after (ok := (fun k_ => some k_ ≠ (.slice (some ad199) t196.length co11 : Value).ownBlock)) (by (with_reducible repeat (first | apply Kd.R_alloc | apply Kd.R_drewN | apply Kd.R_drew)); exact Kd.R_mono HO203.out (fun _ hk => ⟨hk.2, hk.1.2⟩)) hg hat); have n2_ := Aside0.mk (hb); have n3_ := Aside0.mk (ho); clear HO_20; clear HO203; clear HB; clear HO_7; have HO_20 := n0_; have HO203 := n1_; have HB := n2_; have HO206 := n3_; clear n0_ n1_ n2_ n3_; clear ho hb hg hat))
           go_roundg kj14
           case measure => have := HK1.out; have := HJ14.out; omega
           case rel => exact ⟨(y204), (wrap64 (x22_1 + 1)), kz6_8, H', ⟨by have := HK1.out; have := HJ14.out; omega⟩, ⟨by (with_reducible repeat (first | apply Kd.R_alloc | apply Kd.R_drewN | apply Kd.R_drew)); exact Kd.R_mono HO206.out (fun _ hk => hk.1)⟩, ⟨by (with_reducible repeat (first | apply Kd.R_alloc | apply Kd.R_drewN | apply Kd.R_drew)); exact Kd.R_mono HO_20.out (fun _ hk => hk.2)⟩, ⟨by repeat (first | (with_reducible first | exact HB.out | apply below_alloc | apply pw_below_drewN | apply below_drew1) | exact HB.out)⟩⟩
          ·rw [if_neg c21] at H
           exact absurd H (by simp)
         ·replace c19 := Bool.eq_false_iff.mpr c19
          subst c19
          have H1 : (if 0 ≤ a1 then (if a1 < (l0.length : Int) then (if (rd_T86 l0 a1).f4 = true then ((config_enter.f kj14 l0 (rd t196 x22_1)).bind fun t208 => (if x7_1.length + t208.length < 17592186044416 then (config_toward.l0 kj14 l0 a1 a2 (x7_1 ++ t208) t196 (t196.length : Int) (wrap64 (x22_1 + 1))) else (none))) else (config_toward.l0 kj14 l0 a1 a2 x7_1 t196 (t196.length : Int) (wrap64 (x22_1 + 1)))) else (none)) else (none)) = some r := by rw [if_neg (show ¬ (false = true) by decide)] at H; exact H
          clear H
          have H := H1
          clear H1
          by_cases c25 : 0 ≤ a1
          ·rw [if_pos c25] at H
           have c25b0 : decide (0 ≤ a1) = true := decide_eq_true c25
           clear c25
           by_cases c26 : a1 < (l0.length : Int)
           ·rw [if_pos c26] at H
            have c26b0 : decide (a1 < (l0.length : Int)) = true := decide_eq_true c26
            clear c26
            obtain ⟨bq27, hbq27⟩ : ∃ b_ : Bool, b_ = ((rd_T86 l0 a1).f4) := ⟨_, rfl⟩
            replace H : (if bq27 = true then ((config_enter.f kj14 l0 (rd t196 x22_1)).bind fun t208 => (if x7_1.length + t208.length < 17592186044416 then (config_toward.l0 kj14 l0 a1 a2 (x7_1 ++ t208) t196 (t196.length : Int) (wrap64 (x22_1 + 1))) else (none))) else (config_toward.l0 kj14 l0 a1 a2 x7_1 t196 (t196.length : Int) (wrap64 (x22_1 + 1)))) = some r := by rw [← hbq27] at H; exact H
            have Nbq27 := Aside0.mk hbq27
            clear hbq27
            by_cases c28 : bq27 = true
            ·subst c28
             have H1 : ((config_enter.f kj14 l0 (rd t196 x22_1)).bind fun t208 => (if x7_1.length + t208.length < 17592186044416 then (config_toward.l0 kj14 l0 a1 a2 (x7_1 ++ t208) t196 (t196.length : Int) (wrap64 (x22_1 + 1))) else (none))) = some r := by rw [if_pos rfl] at H; exact H
             clear H
             have H := H1
             clear H1
             replace H := Option.bind_eq_some_iff.mp H
             obtain ⟨t208, A290, H⟩ := H
             replace H : (if x7_1.length + t208.length < 17592186044416 then (config_toward.l0 kj14 l0 a1 a2 (x7_1 ++ t208) t196 (t196.length : Int) (wrap64 (x22_1 + 1))) else (none)) = some r := H
             have A29 := Aside0.mk A290
             clear A290
             by_cases c30 : x7_1.length + t208.length < 17592186044416
             ·rw [if_pos c30] at H
              have LMc30 := Aside0.mk c30
              clear c30
              obtain ⟨y211, hy211⟩ : ∃ y_ : List Int, y_ = (x7_1 ++ t208) := ⟨_, rfl⟩
              replace H : (config_toward.l0 kj14 l0 a1 a2 y211 t196 (t196.length : Int) (wrap64 (x22_1 + 1))) = some r := by first | (rw [hy211]; with_reducible exact H) | (have H2_ := (Option.bind_some _ _).symm.trans H; rw [hy211]; with_reducible exact H2_) | (have H2_ := (Option.bind_some _ _).symm.trans H; with_reducible exact H2_) | with_reducible exact H | (rw [hy211]; exact H) | exact H
              have Ny211 := Aside0.mk hy211
              clear hy211
              have H' := Aside0.mk H
              clear H
              have p207 : 0 ≤ (a1 : Int) := of_decide_eq_true kz6_3
              have q207 : a1 < (l0.length : Int) := of_decide_eq_true kz6_3
              obtain ⟨ad207, e207, hx207_0, hx207_1, hx207_2, hx207_3, hx207_4, hx207_5, hx207_6⟩ := at_T86 HR0.out a1 p207 q207
              (try rw [← Nbq27.out] at hx207_4)
              (try rw [← Nbq27.out] at hx207_5)
              (try rw [← Nbq27.out] at hx207_6)
              cases e207
              replace hx207_0 := (HB.out.cell (World.block_lt_of_cell? w _ hx207_0)).trans hx207_0
              replace hx207_1 := (HB.out.cell (World.block_lt_of_cell? w _ hx207_1)).trans hx207_1
              replace hx207_2 := (HB.out.cell (World.block_lt_of_cell? w _ hx207_2)).trans hx207_2
              replace hx207_3 := (HB.out.cell (World.block_lt_of_cell? w _ hx207_3)).trans hx207_3
              replace hx207_4 := (HB.out.cell (World.block_lt_of_cell? w _ hx207_4)).trans hx207_4
              replace hx207_5 := (HB.out.cell (World.block_lt_of_cell? w _ hx207_5)).trans hx207_5
              replace hx207_6 := (HB.out.cell (World.block_lt_of_cell? w _ hx207_6)).trans hx207_6
              replace p207 := eq_true p207
              replace q207 := eq_true q207
              go_wp2_with (first | ((with_reducible refine gate_callee (f := 93) rfl ?_); refine goesL_ (some 54) rfl rfl Try.func93 (by kernel_rfl) rfl #[.slice (some ad207) l0.length c0, .int .i64 (rd t196 x22_1)] rfl kz6_2 ?_; (with_reducible refine (config_enter.calls kj14 _ _ l0 (rd t196 x22_1) t208 _ ?side1 ?side2 A29.out).mono ?_); (case side1 => repeat (first | exact (Kd.C_below HR0.out HB.out) | (with_reducible refine Kd.C_alloc ?_ _) | (with_reducible refine Kd.C_drewN ?_ _) | (with_reducible refine Kd.C_drew ?_))); (case side2 => exact HC0.out); rintro e w31 ⟨v209, rfl, ho0, hb⟩; refine ⟨_, rfl, ?_⟩; have n0_ := Aside0.mk (Kd.R_elder' kz6_6 (Kd.R_base ho0) hb); have n1_ := Aside0.mk (Kd.R_elder' kz6_4 (Kd.R_base ho0) hb); have n2_ := Aside0.mk (Kd.R_lower (Kd.R_new' (Kd.R_new' ho0 (Kd.R_lt kz6_6)) (Kd.R_lt kz6_4)) (below_size kz6_1)); have n3_ := Aside0.mk (below_step kz6_1 hb); clear HO_7; clear HO_20; clear HB; have HO_7 := n0_; have HO_20 := n1_; have HO210 := n2_; have HB := n3_; clear n0_ n1_ n2_ n3_; (try clear hb); (try clear hb2); (try clear hk); (try clear hi); (try clear ho0); obtain ⟨Ao33, co33, eo33⟩ := Kd.R_slice HO210.out; subst eo33) | ((with_reducible refine gate_builtin (b := .append) (xs := #[.tmp 51, .tmp 54]) rfl ?_); at_builtin; refine Kd.R_append_rows (Kd.int .i64) (w0 := w) w.heap.size rfl (.tmp 51) (.tmp 54) 65 3 (.int .i64 0) 8 rfl Try.underlying65 info3 rfl (by decide) (by omega) u7 x7_1 t208 _ _ _ (fun k_ => some k_ ≠ (.slice (some ad199) t196.length co11 : Value).ownBlock ∧ some k_ ≠ (.slice Ao33 t208.length co33 : Value).ownBlock) (fun _ => False) rfl rfl ?aO ?aR (fun _ _ h => h) (fun _ h => h.elim) ?aF ?aB ?aS ?aL ?_; (case aR => repeat (first | exact (Kd.R_reads' HO210.out).2.2 | (with_reducible refine Kd.C_alloc ?_ _) | (with_reducible refine Kd.C_drewN ?_ _) | (with_reducible refine Kd.C_drew ?_))); (case aB => exact kz6_1); (case aF => exact (fun k_ hk => ⟨Kd.fresh' (Kd.R_lt kz6_4) k_ hk, Kd.fresh' (Kd.R_lt (by (with_reducible repeat (first | apply Kd.R_alloc | apply Kd.R_drewN | apply Kd.R_drew)); exact HO210.out)) k_ hk⟩)); (case aO => exact kz6_6); (case aS => exact (below_size kz6_1)); (case aL => have := LMc30.out; omega); intro v212 w32 ho hb hg hat; rw [← Ny211.out] at ho; have n0_ := Aside0.mk (Kd.R_after (ok := (fun k_ => some k_ ≠ (.slice Ao33 t208.length co33 : Value).ownBlock)) (by (with_reducible repeat (first | apply Kd.R_alloc | apply Kd.R_drewN | apply Kd.R_drew)); exact Kd.R_mono HO_20.out (fun _ hk => ⟨hk.2, hk.1⟩)) hg hat); have n1_ := Aside0.mk (Kd.R_after (ok := (fun k_ => some k_ ≠ (.slice (some ad199) t196.length co11 : Value).ownBlock)) (by (with_reducible repeat (first | apply Kd.R_alloc | apply Kd.R_drewN | apply Kd.R_drew)); exact Kd.R_mono HO210.out (fun _ hk => ⟨hk.2, hk.1.2⟩)) hg hat); have n2_ := Aside0.mk (hb); have n3_ := Aside0.mk (ho); clear HO_20; clear HO210; clear HB; clear HO_7; have HO_20 := n0_; have HO210 := n1_; have HB := n2_; have HO213 := n3_; clear n0_ n1_ n2_ n3_; clear ho hb hg hat))
              go_roundg kj14
              case measure => have := HK1.out; have := HJ14.out; omega
              case rel => exact ⟨(y211), (wrap64 (x22_1 + 1)), kz6_8, H', ⟨by have := HK1.out; have := HJ14.out; omega⟩, ⟨by (with_reducible repeat (first | apply Kd.R_alloc | apply Kd.R_drewN | apply Kd.R_drew)); exact Kd.R_mono HO213.out (fun _ hk => hk.1)⟩, ⟨by (with_reducible repeat (first | apply Kd.R_alloc | apply Kd.R_drewN | apply Kd.R_drew)); exact Kd.R_mono HO_20.out (fun _ hk => hk.2)⟩, ⟨by repeat (first | (with_reducible first | exact HB.out | apply below_alloc | apply pw_below_drewN | apply below_drew1) | exact HB.out)⟩⟩
             ·rw [if_neg c30] at H
              exact absurd H (by simp)
            ·replace c28 := Bool.eq_false_iff.mpr c28
             subst c28
             have H1 : (config_toward.l0 kj14 l0 a1 a2 x7_1 t196 (t196.length : Int) (wrap64 (x22_1 + 1))) = some r := by rw [if_neg (show ¬ (false = true) by decide)] at H; exact H
             clear H
             have H := H1
             clear H1
             have H' := Aside0.mk H
             clear H
             have p207 : 0 ≤ (a1 : Int) := of_decide_eq_true kz6_3
             have q207 : a1 < (l0.length : Int) := of_decide_eq_true kz6_3
             obtain ⟨ad207, e207, hx207_0, hx207_1, hx207_2, hx207_3, hx207_4, hx207_5, hx207_6⟩ := at_T86 HR0.out a1 p207 q207
             (try rw [← Nbq27.out] at hx207_4)
             (try rw [← Nbq27.out] at hx207_5)
             (try rw [← Nbq27.out] at hx207_6)
             cases e207
             replace hx207_0 := (HB.out.cell (World.block_lt_of_cell? w _ hx207_0)).trans hx207_0
             replace hx207_1 := (HB.out.cell (World.block_lt_of_cell? w _ hx207_1)).trans hx207_1
             replace hx207_2 := (HB.out.cell (World.block_lt_of_cell? w _ hx207_2)).trans hx207_2
             replace hx207_3 := (HB.out.cell (World.block_lt_of_cell? w _ hx207_3)).trans hx207_3
             replace hx207_4 := (HB.out.cell (World.block_lt_of_cell? w _ hx207_4)).trans hx207_4
             replace hx207_5 := (HB.out.cell (World.block_lt_of_cell? w _ hx207_5)).trans hx207_5
             replace hx207_6 := (HB.out.cell (World.block_lt_of_cell? w _ hx207_6)).trans hx207_6
             replace p207 := eq_true p207
             replace q207 := eq_true q207
             go_wp2
             go_roundg kj14
             case measure => have := HK1.out; have := HJ14.out; omega
             case rel => exact ⟨(x7_1), (wrap64 (x22_1 + 1)), kz6_8, H', ⟨by have := HK1.out; have := HJ14.out; omega⟩, ⟨by (with_reducible repeat (first | apply Kd.R_alloc | apply Kd.R_drewN | apply Kd.R_drew)); exact HO_7.out⟩, ⟨by (with_reducible repeat (first | apply Kd.R_alloc | apply Kd.R_drewN | apply Kd.R_drew)); exact HO_20.out⟩, ⟨by repeat (first | (with_reducible first | exact HB.out | apply below_alloc | apply pw_below_drewN | apply below_drew1) | exact HB.out)⟩⟩
           ·rw [if_neg c26] at H
            exact absurd H (by simp)
          ·rw [if_neg c25] at H
           exact absurd H (by simp)
      ·rw [if_neg c14] at H
       exact absurd H (by simp)
     ·rw [if_neg c13] at H
      exact absurd H (by simp)
    ·rw [if_neg c12] at H
     have c12b0 : decide (x22_1 < (t196.length : Int)) = false := decide_eq_false c12
     clear c12
     obtain rfl := Option.some.inj H
     go_wp2
     go_ret
     exact ⟨_, by first | rfl | (simp [errW_none, errW_some] <;> rfl) | (simp [*, errW_none, errW_some] <;> rfl), by (with_reducible repeat (first | apply Kd.R_alloc | apply Kd.R_drewN | apply Kd.R_drew)); exact Kd.R_mono HO_7.out (fun _ hk => trivial), by repeat (first | (with_reducible first | exact HB.out | apply below_alloc | apply pw_below_drewN | apply below_drew1) | exact HB.out)⟩

end Go.Proofs.Ytjghlomkimoeoaa.PConfigMoves
