-- Written by fprint.py (wip), by way of the printer's functions; where they are turned, by texts of mine.
import Derived.Test.YtjghlomkimoeoaaPConfigAsksx0
import Derived.Test.YtjghlomkimoeoaaPConfigAsksx2
import Derived.Test.YtjghlomkimoeoaaPConfigAsksx3
import Derived.Test.YtjghlomkimoeoaaPConfigAsksx10
namespace Go.Proofs.Ytjghlomkimoeoaa.PConfigAsks
open Go.RowKit Go.Proofs.YtjghlomkimoeoaaW.PrintWords Go.Proofs.YtjghlomkimoeoaaW.PrintLast Go.Proofs.YtjghlomkimoeoaaW.PrintMore
attribute [local go_sem] max2_int min2_int max_two min_two max_three min_three max_four min_four   -- for this text's walks alone
set_option linter.unusedVariables false
set_option linter.unusedSimpArgs false
theorem kz11_1 {p_ : Prop} (h_ : p_ := by repeat (first | (with_reducible first | exact HB.out | apply below_alloc | apply pw_below_drewN | apply below_drew1) | exact HB.out)) : p_ := h_
theorem kz11_2 {p_ : Prop} (h_ : p_ := by (try simp only [List.map_toArray, List.map_cons, List.map_nil]); first | done | rfl | (simp only [List.length_drop, List.length_take]; rfl)) : p_ := h_
theorem kz11_3 {p_ : Prop} (h_ : p_ := by (with_reducible repeat (first | apply Kd.R_alloc | apply Kd.R_drewN | apply Kd.R_drew)); exact HO_20.out) : p_ := h_
theorem kz11_4 {p_ : Prop} (h_ : p_ := by (with_reducible repeat (first | apply Kd.R_alloc | apply Kd.R_drewN | apply Kd.R_drew)); exact HO_7.out) : p_ := h_
theorem kz11_5 {p_ : Prop} (h_ : p_ := by first | (with_reducible assumption) | assumption) : p_ := h_
theorem kz11_6 {p_ : Prop} (h_ : p_ := by first | rfl | (simp; done) | (simp [*]; done)) : p_ := h_

/-! ### tree_Within: function 29 -/
def tree_Within.j0 : Nat → List (S86) → Int → Int → Bool → Option (Bool)
 | 0, _, _, _, _ => none
 | k + 1, x0, x1, x2, x7 => if x7 = true then (some false) else (if x2 = (-1) then (some true) else ((tree_state.f x0 x2).bind fun t278 => (if t278 = true then (if x2 ≤ x1 then (if 0 ≤ x2 then (if x2 < (x0.length : Int) then (some (decide (x1 < ((rd_T86 x0 x2).f3)))) else (none)) else (none)) else (some false)) else (some false))))
def tree_Within.f (k : Nat) (l0 : List (S86)) (a1 : Int) (a2 : Int) : Option (Bool) := (tree_Formed.f k l0).bind fun t276 => (if t276 = true then (if a1 = (-1) then (tree_Within.j0 k l0 a1 a2 false) else ((tree_state.f l0 a1).bind fun t277 => (tree_Within.j0 k l0 a1 a2 (!t277)))) else (tree_Within.j0 k l0 a1 a2 true))
theorem tree_Within.mono_l : ∀ k, (∀ y0 y1 y2 y3, LeO (tree_Within.j0 k y0 y1 y2 y3) (tree_Within.j0 (k + 1) y0 y1 y2 y3))
 | 0 => fun _ _ _ _ r h => by simp [tree_Within.j0] at h
 | k + 1 => by
  have ih0 := tree_Within.mono_l k
  ·intro y0 y1 y2 y3
   unfold tree_Within.j0
   repeat' first
   | (with_reducible exact ih0 _ _ _ _)
   | (with_reducible exact tree_Formed.mono _ _)
   | (with_reducible exact LeO.refl _)
   | (with_reducible exact LeO.none _)
   | (with_reducible refine LeO.ite ?_ ?_)
   | (with_reducible refine LeO.bind ?_ (fun _ => ?_))
   | exact ih0 _ _ _ _
   | exact tree_Formed.mono _ _
   | exact LeO.none _
   | refine LeO.ite ?_ ?_
   | refine LeO.bind ?_ (fun _ => ?_)
theorem tree_Within.mono : ∀ a0 a1 a2 k, LeO (tree_Within.f k a0 a1 a2) (tree_Within.f (k + 1) a0 a1 a2) := by
 intro a0 a1 a2 k
 have ih0 := tree_Within.mono_l k
 unfold tree_Within.f
 repeat' first
   | (with_reducible exact ih0 _ _ _ _)
   | (with_reducible exact tree_Formed.mono _ _)
   | (with_reducible exact LeO.refl _)
   | (with_reducible exact LeO.none _)
   | (with_reducible refine LeO.ite ?_ ?_)
   | (with_reducible refine LeO.bind ?_ (fun _ => ?_))
   | exact ih0 _ _ _ _
   | exact tree_Formed.mono _ _
   | exact LeO.none _
   | refine LeO.ite ?_ ?_
   | refine LeO.bind ?_ (fun _ => ?_)
set_option maxHeartbeats 8000000 in
set_option maxRecDepth 100000 in
theorem tree_Within.calls (k : Nat) (A0 : Option Addr) (c0 : Nat) (l0 : List (S86)) (a1 : Int) (a2 : Int) (r : Bool) (w : World) (hr0 : Kd.C k86 w A0 l0.length l0) (hc0 : l0.length ≤ c0) (h : tree_Within.f k l0 a1 a2 = some r) :
  Calls Try.prog 29 #[.slice A0 l0.length c0, .int .i64 a1, .int .i64 a2] w fun e w' => e = .returned (.bool r) ∧ Below w.heap.size w w' := by
 have HR0 := Aside0.mk hr0
 have HC0 := Aside0.mk hc0
 clear hr0 hc0
 have HB := Aside0.mk (Below.refl w.heap.size w)
 have H : ((tree_Formed.f k l0).bind fun t276 => (if t276 = true then (if a1 = (-1) then (tree_Within.j0 k l0 a1 a2 false) else ((tree_state.f l0 a1).bind fun t277 => (tree_Within.j0 k l0 a1 a2 (!t277)))) else (tree_Within.j0 k l0 a1 a2 true))) = some r := h
 clear h
 have HC4 := Aside0.mk H
 clear H
 go_enter Try.func29, Try.ntmps29
 go_upto_region 1 with (fail)
 go_cut [7] (fun v7 wc => ∃ (kq : Nat) (x7_3 : Bool), v7 = .bool x7_3 ∧ Aside0 (tree_Within.j0 kq l0 a1 a2 x7_3 = some r) ∧ Aside0 (kq ≤ k) ∧ Aside0 (Below w.heap.size w wc))
 case first =>
  have H := HC4.out
  clear HC4
  replace H := Option.bind_eq_some_iff.mp H
  obtain ⟨t276, A50, H⟩ := H
  replace H : (if t276 = true then (if a1 = (-1) then (tree_Within.j0 k l0 a1 a2 false) else ((tree_state.f l0 a1).bind fun t277 => (tree_Within.j0 k l0 a1 a2 (!t277)))) else (tree_Within.j0 k l0 a1 a2 true)) = some r := H
  have A5 := Aside0.mk A50
  clear A50
  by_cases c6 : t276 = true
  ·subst c6
   have H1 : (if a1 = (-1) then (tree_Within.j0 k l0 a1 a2 false) else ((tree_state.f l0 a1).bind fun t277 => (tree_Within.j0 k l0 a1 a2 (!t277)))) = some r := by rw [if_pos rfl] at H; exact H
   clear H
   have H := H1
   clear H1
   by_cases c7 : a1 = (-1)
   ·rw [if_pos c7] at H
    have c7b0 : (a1 == (-1)) = true := beq_iff_eq.mpr c7
    have c7b1 : (a1 != (-1)) = false := bne_eq_false_iff_eq.mpr c7
    clear c7
    (first | rw [c7b0] | (simp only [i64_w, i32_w]; rw [c7b0]) | skip)
    have H' := Aside0.mk H
    clear H
    go_wp2_with (first | ((with_reducible refine gate_callee (f := 80) rfl ?_); refine goesL_ (some 9) rfl rfl Try.func80 (by kernel_rfl) rfl #[.slice A0 l0.length c0] rfl kz11_2 ?_; (with_reducible refine (tree_Formed.calls k _ _ l0 true _ ?side1 ?side2 A5.out).mono ?_); (case side1 => repeat (first | exact (Kd.C_below HR0.out HB.out) | (with_reducible refine Kd.C_alloc ?_ _) | (with_reducible refine Kd.C_drewN ?_ _) | (with_reducible refine Kd.C_drew ?_))); (case side2 => exact HC0.out); rintro e w8 ⟨rfl, hb⟩; refine ⟨_, rfl, ?_⟩; have n0_ := Aside0.mk (below_step kz11_1 hb); clear HB; have HB := n0_; clear n0_; (try clear hb); (try clear hb2); (try clear hk); (try clear hi)))
    go_meet
    case rel => exact ⟨_, (false), kz11_6, H', ⟨by first | omega | exact Nat.le_refl _⟩, ⟨by repeat (first | (with_reducible first | exact HB.out | apply below_alloc | apply pw_below_drewN | apply below_drew1) | exact HB.out)⟩⟩
   ·rw [if_neg c7] at H
    have c7b0 : (a1 == (-1)) = false := beq_eq_false_iff_ne.mpr c7
    have c7b1 : (a1 != (-1)) = true := bne_iff_ne.mpr c7
    (first | rw [c7b0] | (simp only [i64_w, i32_w]; rw [c7b0]) | skip)
    replace H := Option.bind_eq_some_iff.mp H
    obtain ⟨t277, A90, H⟩ := H
    replace H : (tree_Within.j0 k l0 a1 a2 (!t277)) = some r := H
    have A9 := Aside0.mk A90
    clear A90
    have H' := Aside0.mk H
    clear H
    go_wp2_with (first | ((with_reducible refine gate_callee (f := 80) rfl ?_); refine goesL_ (some 9) rfl rfl Try.func80 (by kernel_rfl) rfl #[.slice A0 l0.length c0] rfl kz11_2 ?_; (with_reducible refine (tree_Formed.calls k _ _ l0 true _ ?side1 ?side2 A5.out).mono ?_); (case side1 => repeat (first | exact (Kd.C_below HR0.out HB.out) | (with_reducible refine Kd.C_alloc ?_ _) | (with_reducible refine Kd.C_drewN ?_ _) | (with_reducible refine Kd.C_drew ?_))); (case side2 => exact HC0.out); rintro e w10 ⟨rfl, hb⟩; refine ⟨_, rfl, ?_⟩; have n0_ := Aside0.mk (below_step kz11_1 hb); clear HB; have HB := n0_; clear n0_; (try clear hb); (try clear hb2); (try clear hk); (try clear hi)) | (go_at_call 81; (with_reducible refine (tree_state.calls _ _ l0 a1 t277 _ ?side1 ?side2 A9.out).mono ?_); (case side1 => repeat (first | exact (Kd.C_below HR0.out HB.out) | (with_reducible refine Kd.C_alloc ?_ _) | (with_reducible refine Kd.C_drewN ?_ _) | (with_reducible refine Kd.C_drew ?_))); (case side2 => exact HC0.out); rintro e w' ⟨rfl, ⟨nd, rfl⟩⟩))
    go_meet
    case rel => exact ⟨_, (!t277), kz11_6, H', ⟨by first | omega | exact Nat.le_refl _⟩, ⟨by repeat (first | (with_reducible first | exact HB.out | apply below_alloc | apply pw_below_drewN | apply below_drew1) | exact HB.out)⟩⟩
  ·replace c6 := Bool.eq_false_iff.mpr c6
   subst c6
   have H1 : (tree_Within.j0 k l0 a1 a2 true) = some r := by rw [if_neg (show ¬ (false = true) by decide)] at H; exact H
   clear H
   have H := H1
   clear H1
   have H' := Aside0.mk H
   clear H
   go_wp2_with (first | ((with_reducible refine gate_callee (f := 80) rfl ?_); refine goesL_ (some 9) rfl rfl Try.func80 (by kernel_rfl) rfl #[.slice A0 l0.length c0] rfl kz11_2 ?_; (with_reducible refine (tree_Formed.calls k _ _ l0 false _ ?side1 ?side2 A5.out).mono ?_); (case side1 => repeat (first | exact (Kd.C_below HR0.out HB.out) | (with_reducible refine Kd.C_alloc ?_ _) | (with_reducible refine Kd.C_drewN ?_ _) | (with_reducible refine Kd.C_drew ?_))); (case side2 => exact HC0.out); rintro e w11 ⟨rfl, hb⟩; refine ⟨_, rfl, ?_⟩; have n0_ := Aside0.mk (below_step kz11_1 hb); clear HB; have HB := n0_; clear n0_; (try clear hb); (try clear hb2); (try clear hk); (try clear hi)))
   go_meet
   case rel => exact ⟨_, (true), kz11_6, H', ⟨by first | omega | exact Nat.le_refl _⟩, ⟨by repeat (first | (with_reducible first | exact HB.out | apply below_alloc | apply pw_below_drewN | apply below_drew1) | exact HB.out)⟩⟩
 case rest =>
  clear HC4
  try clear c2
  try clear p2
  try clear c6
  try clear c7
  try clear c7b0
  try clear c7b1
  try clear c8
  obtain ⟨kq, x7_3, rfl, HA, HJ3, HB⟩ := hcut
  cases kq with
  | zero => exact absurd HA.out (by simp [tree_Within.j0])
  | succ kj3 =>
   have H := HA.out
   clear HA
   simp only [tree_Within.j0] at H
   by_cases c12 : x7_3 = true
   ·subst c12
    have H1 : (some false) = some r := by rw [if_pos rfl] at H; exact H
    clear H
    have H := H1
    clear H1
    obtain rfl := Option.some.inj H
    go_wp2
    go_ret
    exact ⟨by first | rfl | (simp [errW_none, errW_some] <;> rfl) | (simp [*, errW_none, errW_some] <;> rfl), by repeat (first | (with_reducible first | exact HB.out | apply below_alloc | apply pw_below_drewN | apply below_drew1) | exact HB.out)⟩
   ·replace c12 := Bool.eq_false_iff.mpr c12
    subst c12
    have H1 : (if a2 = (-1) then (some true) else ((tree_state.f l0 a2).bind fun t278 => (if t278 = true then (if a2 ≤ a1 then (if 0 ≤ a2 then (if a2 < (l0.length : Int) then (some (decide (a1 < ((rd_T86 l0 a2).f3)))) else (none)) else (none)) else (some false)) else (some false)))) = some r := by rw [if_neg (show ¬ (false = true) by decide)] at H; exact H
    clear H
    have H := H1
    clear H1
    by_cases c13 : a2 = (-1)
    ·rw [if_pos c13] at H
     have c13b0 : (a2 == (-1)) = true := beq_iff_eq.mpr c13
     have c13b1 : (a2 != (-1)) = false := bne_eq_false_iff_eq.mpr c13
     clear c13
     obtain rfl := Option.some.inj H
     go_wp2
     go_ret
     exact ⟨by first | rfl | (simp [errW_none, errW_some] <;> rfl) | (simp [*, errW_none, errW_some] <;> rfl), by repeat (first | (with_reducible first | exact HB.out | apply below_alloc | apply pw_below_drewN | apply below_drew1) | exact HB.out)⟩
    ·rw [if_neg c13] at H
     have c13b0 : (a2 == (-1)) = false := beq_eq_false_iff_ne.mpr c13
     have c13b1 : (a2 != (-1)) = true := bne_iff_ne.mpr c13
     replace H := Option.bind_eq_some_iff.mp H
     obtain ⟨t278, A140, H⟩ := H
     replace H : (if t278 = true then (if a2 ≤ a1 then (if 0 ≤ a2 then (if a2 < (l0.length : Int) then (some (decide (a1 < ((rd_T86 l0 a2).f3)))) else (none)) else (none)) else (some false)) else (some false)) = some r := H
     have A14 := Aside0.mk A140
     clear A140
     by_cases c15 : t278 = true
     ·subst c15
      have H1 : (if a2 ≤ a1 then (if 0 ≤ a2 then (if a2 < (l0.length : Int) then (some (decide (a1 < ((rd_T86 l0 a2).f3)))) else (none)) else (none)) else (some false)) = some r := by rw [if_pos rfl] at H; exact H
      clear H
      have H := H1
      clear H1
      by_cases c16 : a2 ≤ a1
      ·rw [if_pos c16] at H
       have c16b0 : decide (a2 ≤ a1) = true := decide_eq_true c16
       clear c16
       by_cases c17 : 0 ≤ a2
       ·rw [if_pos c17] at H
        have c17b0 : decide (0 ≤ a2) = true := decide_eq_true c17
        clear c17
        by_cases c18 : a2 < (l0.length : Int)
        ·rw [if_pos c18] at H
         have c18b0 : decide (a2 < (l0.length : Int)) = true := decide_eq_true c18
         clear c18
         obtain rfl := Option.some.inj H
         go_wp2_with (first | ((with_reducible refine gate_callee (f := 81) rfl ?_); refine goesL_ (some 26) rfl rfl Try.func81 (by kernel_rfl) rfl #[.slice A0 l0.length c0, .int .i64 a2] rfl kz11_2 ?_; (with_reducible refine (tree_state.calls _ _ l0 a2 true _ ?side1 ?side2 A14.out).mono ?_); (case side1 => repeat (first | exact (Kd.C_below HR0.out HB.out) | (with_reducible refine Kd.C_alloc ?_ _) | (with_reducible refine Kd.C_drewN ?_ _) | (with_reducible refine Kd.C_drew ?_))); (case side2 => exact HC0.out); rintro e w' ⟨rfl, ⟨nd, rfl⟩⟩; refine ⟨_, rfl, ?_⟩; have p279 : 0 ≤ (a2 : Int) := of_decide_eq_true kz11_5; have q279 : a2 < (l0.length : Int) := of_decide_eq_true kz11_5; obtain ⟨ad279, e279, hx279_0, hx279_1, hx279_2, hx279_3, hx279_4, hx279_5, hx279_6⟩ := at_T86 HR0.out a2 p279 q279; cases e279; replace hx279_0 := (HB.out.cell (World.block_lt_of_cell? w _ hx279_0)).trans hx279_0; replace hx279_1 := (HB.out.cell (World.block_lt_of_cell? w _ hx279_1)).trans hx279_1; replace hx279_2 := (HB.out.cell (World.block_lt_of_cell? w _ hx279_2)).trans hx279_2; replace hx279_3 := (HB.out.cell (World.block_lt_of_cell? w _ hx279_3)).trans hx279_3; replace hx279_4 := (HB.out.cell (World.block_lt_of_cell? w _ hx279_4)).trans hx279_4; replace hx279_5 := (HB.out.cell (World.block_lt_of_cell? w _ hx279_5)).trans hx279_5; replace hx279_6 := (HB.out.cell (World.block_lt_of_cell? w _ hx279_6)).trans hx279_6; replace p279 := eq_true p279; replace q279 := eq_true q279))
         go_ret
         exact ⟨by first | rfl | (simp [errW_none, errW_some] <;> rfl) | (simp [*, errW_none, errW_some] <;> rfl), by repeat (first | (with_reducible first | exact HB.out | apply below_alloc | apply pw_below_drewN | apply below_drew1) | exact HB.out)⟩
        ·rw [if_neg c18] at H
         exact absurd H (by simp)
       ·rw [if_neg c17] at H
        exact absurd H (by simp)
      ·rw [if_neg c16] at H
       have c16b0 : decide (a2 ≤ a1) = false := decide_eq_false c16
       clear c16
       obtain rfl := Option.some.inj H
       go_wp2_with (first | ((with_reducible refine gate_callee (f := 81) rfl ?_); refine goesL_ (some 26) rfl rfl Try.func81 (by kernel_rfl) rfl #[.slice A0 l0.length c0, .int .i64 a2] rfl kz11_2 ?_; (with_reducible refine (tree_state.calls _ _ l0 a2 true _ ?side1 ?side2 A14.out).mono ?_); (case side1 => repeat (first | exact (Kd.C_below HR0.out HB.out) | (with_reducible refine Kd.C_alloc ?_ _) | (with_reducible refine Kd.C_drewN ?_ _) | (with_reducible refine Kd.C_drew ?_))); (case side2 => exact HC0.out); rintro e w' ⟨rfl, ⟨nd, rfl⟩⟩; refine ⟨_, rfl, ?_⟩))
       go_ret
       exact ⟨by first | rfl | (simp [errW_none, errW_some] <;> rfl) | (simp [*, errW_none, errW_some] <;> rfl), by repeat (first | (with_reducible first | exact HB.out | apply below_alloc | apply pw_below_drewN | apply below_drew1) | exact HB.out)⟩
     ·replace c15 := Bool.eq_false_iff.mpr c15
      subst c15
      have H1 : (some false) = some r := by rw [if_neg (show ¬ (false = true) by decide)] at H; exact H
      clear H
      have H := H1
      clear H1
      obtain rfl := Option.some.inj H
      go_wp2_with (first | ((with_reducible refine gate_callee (f := 81) rfl ?_); refine goesL_ (some 26) rfl rfl Try.func81 (by kernel_rfl) rfl #[.slice A0 l0.length c0, .int .i64 a2] rfl kz11_2 ?_; (with_reducible refine (tree_state.calls _ _ l0 a2 false _ ?side1 ?side2 A14.out).mono ?_); (case side1 => repeat (first | exact (Kd.C_below HR0.out HB.out) | (with_reducible refine Kd.C_alloc ?_ _) | (with_reducible refine Kd.C_drewN ?_ _) | (with_reducible refine Kd.C_drew ?_))); (case side2 => exact HC0.out); rintro e w' ⟨rfl, ⟨nd, rfl⟩⟩; refine ⟨_, rfl, ?_⟩))
      go_ret
      exact ⟨by first | rfl | (simp [errW_none, errW_some] <;> rfl) | (simp [*, errW_none, errW_some] <;> rfl), by repeat (first | (with_reducible first | exact HB.out | apply below_alloc | apply pw_below_drewN | apply below_drew1) | exact HB.out)⟩

/-! ### config_toward: function 95 -/
mutual
def config_toward.l0 : Nat → List (S86) → Int → Int → List Int → List Int → Int → Int → Option (List Int)
 | 0, _, _, _, _, _, _, _ => none
 | k + 1, x0, x1, x2, x7, x20, x21, x22 => if x22 < x21 then (if 0 ≤ x22 then (if x22 < (x20.length : Int) then (if (rd x20 x22) ≤ x2 then (if 0 ≤ (rd x20 x22) then (if (rd x20 x22) < (x0.length : Int) then (config_toward.j1 k x0 x1 x2 x7 (rd x20 x22) x20 x21 x22 (decide (x2 < ((rd_T86 x0 (rd x20 x22)).f3)))) else (none)) else (none)) else (config_toward.j1 k x0 x1 x2 x7 (rd x20 x22) x20 x21 x22 false)) else (none)) else (none)) else (some x7)
def config_toward.j1 : Nat → List (S86) → Int → Int → List Int → Int → List Int → Int → Int → Bool → Option (List Int)
 | 0, _, _, _, _, _, _, _, _, _ => none
 | k + 1, x0, x1, x2, x7, x9, x20, x21, x22, x26 => if x26 = true then ((config_toward.f k x0 x9 x2).bind fun t291 => (if x7.length + t291.length < 17592186044416 then (config_toward.l0 k x0 x1 x2 (x7 ++ t291) x20 x21 (wrap64 (x22 + 1))) else (none))) else (if 0 ≤ x1 then (if x1 < (x0.length : Int) then (if (rd_T86 x0 x1).f4 = true then ((config_enter.f k x0 x9).bind fun t298 => (if x7.length + t298.length < 17592186044416 then (config_toward.l0 k x0 x1 x2 (x7 ++ t298) x20 x21 (wrap64 (x22 + 1))) else (none))) else (config_toward.l0 k x0 x1 x2 x7 x20 x21 (wrap64 (x22 + 1)))) else (none)) else (none))
def config_toward.f : Nat → List (S86) → Int → Int → Option (List Int)
 | 0, _, _, _ => none
 | k + 1, l0, a1, a2 => if a1 = a2 then ((config_enter.f k l0 a2).bind fun t280 => (some t280)) else ((tree_Inner.f k l0 a1).bind fun t286 => (config_toward.l0 k l0 a1 a2 (([a1] : List Int)) t286 (t286.length : Int) 0))
end
theorem config_toward.mono_l : ∀ k, (∀ y0 y1 y2, LeO (config_toward.f k y0 y1 y2) (config_toward.f (k + 1) y0 y1 y2)) ∧ (∀ y0 y1 y2 y3 y4 y5 y6, LeO (config_toward.l0 k y0 y1 y2 y3 y4 y5 y6) (config_toward.l0 (k + 1) y0 y1 y2 y3 y4 y5 y6)) ∧ (∀ y0 y1 y2 y3 y4 y5 y6 y7 y8, LeO (config_toward.j1 k y0 y1 y2 y3 y4 y5 y6 y7 y8) (config_toward.j1 (k + 1) y0 y1 y2 y3 y4 y5 y6 y7 y8))
 | 0 => ⟨fun _ _ _ r h => by simp [config_toward.f] at h, fun _ _ _ _ _ _ _ r h => by simp [config_toward.l0] at h, fun _ _ _ _ _ _ _ _ _ r h => by simp [config_toward.j1] at h⟩
 | k + 1 => by
  obtain ⟨ih0, ih1, ih2⟩ := config_toward.mono_l k
  refine ⟨?_, ?_, ?_⟩
  ·intro y0 y1 y2
   unfold config_toward.f
   repeat' first
   | (with_reducible exact ih0 _ _ _)
   | (with_reducible exact ih1 _ _ _ _ _ _ _)
   | (with_reducible exact ih2 _ _ _ _ _ _ _ _ _)
   | (with_reducible exact config_enter.mono _ _ _)
   | (with_reducible exact tree_Inner.mono _ _ _)
   | (with_reducible exact LeO.refl _)
   | (with_reducible exact LeO.none _)
   | (with_reducible refine LeO.ite ?_ ?_)
   | (with_reducible refine LeO.bind ?_ (fun _ => ?_))
   | exact ih0 _ _ _
   | exact ih1 _ _ _ _ _ _ _
   | exact ih2 _ _ _ _ _ _ _ _ _
   | exact config_enter.mono _ _ _
   | exact tree_Inner.mono _ _ _
   | exact LeO.none _
   | refine LeO.ite ?_ ?_
   | refine LeO.bind ?_ (fun _ => ?_)
  ·intro y0 y1 y2 y3 y4 y5 y6
   unfold config_toward.l0
   repeat' first
   | (with_reducible exact ih0 _ _ _)
   | (with_reducible exact ih1 _ _ _ _ _ _ _)
   | (with_reducible exact ih2 _ _ _ _ _ _ _ _ _)
   | (with_reducible exact config_enter.mono _ _ _)
   | (with_reducible exact tree_Inner.mono _ _ _)
   | (with_reducible exact LeO.refl _)
   | (with_reducible exact LeO.none _)
   | (with_reducible refine LeO.ite ?_ ?_)
   | (with_reducible refine LeO.bind ?_ (fun _ => ?_))
   | exact ih0 _ _ _
   | exact ih1 _ _ _ _ _ _ _
   | exact ih2 _ _ _ _ _ _ _ _ _
   | exact config_enter.mono _ _ _
   | exact tree_Inner.mono _ _ _
   | exact LeO.none _
   | refine LeO.ite ?_ ?_
   | refine LeO.bind ?_ (fun _ => ?_)
  ·intro y0 y1 y2 y3 y4 y5 y6 y7 y8
   unfold config_toward.j1
   repeat' first
   | (with_reducible exact ih0 _ _ _)
   | (with_reducible exact ih1 _ _ _ _ _ _ _)
   | (with_reducible exact ih2 _ _ _ _ _ _ _ _ _)
   | (with_reducible exact config_enter.mono _ _ _)
   | (with_reducible exact tree_Inner.mono _ _ _)
   | (with_reducible exact LeO.refl _)
   | (with_reducible exact LeO.none _)
   | (with_reducible refine LeO.ite ?_ ?_)
   | (with_reducible refine LeO.bind ?_ (fun _ => ?_))
   | exact ih0 _ _ _
   | exact ih1 _ _ _ _ _ _ _
   | exact ih2 _ _ _ _ _ _ _ _ _
   | exact config_enter.mono _ _ _
   | exact tree_Inner.mono _ _ _
   | exact LeO.none _
   | refine LeO.ite ?_ ?_
   | refine LeO.bind ?_ (fun _ => ?_)
theorem config_toward.mono : ∀ a0 a1 a2 k, LeO (config_toward.f k a0 a1 a2) (config_toward.f (k + 1) a0 a1 a2) := by
 intro a0 a1 a2 k
 obtain ⟨ih0, ih1, ih2⟩ := config_toward.mono_l k
 exact ih0 a0 a1 a2
set_option maxHeartbeats 8000000 in
set_option maxRecDepth 100000 in
theorem config_toward.calls (k : Nat) : ∀ (A0 : Option Addr) (c0 : Nat) (l0 : List (S86)) (a1 : Int) (a2 : Int) (r : List Int) (w : World) (hr0 : Kd.C k86 w A0 l0.length l0) (hc0 : l0.length ≤ c0) (h : config_toward.f k l0 a1 a2 = some r),
  Calls Try.prog 95 #[.slice A0 l0.length c0, .int .i64 a1, .int .i64 a2] w fun e w' => ∃ v0_ : Value, e = .returned (v0_) ∧ Kd.R (Kd.int .i64) 3 w' w.heap.size (fun _ => True) v0_ r ∧ Below w.heap.size w w' := by
 induction k using Nat.strongRecOn with
 | _ k ih =>
 intro A0 c0 l0 a1 a2 r w hr0 hc0 h
 cases k with
 | zero => exact absurd h (by simp [config_toward.f])
 | succ k =>
 simp only [config_toward.f] at h
 have HR0 := Aside0.mk hr0
 have HC0 := Aside0.mk hc0
 clear hr0 hc0
 have HB := Aside0.mk (Below.refl w.heap.size w)
 have H : (if a1 = a2 then ((config_enter.f k l0 a2).bind fun t280 => (some t280)) else ((tree_Inner.f k l0 a1).bind fun t286 => (config_toward.l0 k l0 a1 a2 (([a1] : List Int)) t286 (t286.length : Int) 0))) = some r := h
 clear h
 by_cases c4 : a1 = a2
 ·rw [if_pos c4] at H
  have c4b0 : (a1 == a2) = true := beq_iff_eq.mpr c4
  have c4b1 : (a1 != a2) = false := bne_eq_false_iff_eq.mpr c4
  clear c4
  replace H := Option.bind_eq_some_iff.mp H
  obtain ⟨t280, A50, H⟩ := H
  replace H : (some t280) = some r := H
  have A5 := Aside0.mk A50
  clear A50
  obtain rfl := Option.some.inj H
  go_enter Try.func95, Try.ntmps95
  go_wp2_with (first | ((with_reducible refine gate_callee (f := 93) rfl ?_); refine goesL_ (some 15) rfl rfl Try.func93 (by kernel_rfl) rfl #[.slice A0 l0.length c0, .int .i64 a2] rfl kz11_2 ?_; (with_reducible refine (config_enter.calls k _ _ l0 a2 t280 _ ?side1 ?side2 A5.out).mono ?_); (case side1 => repeat (first | exact HR0.out | (with_reducible refine Kd.C_alloc ?_ _) | (with_reducible refine Kd.C_drewN ?_ _) | (with_reducible refine Kd.C_drew ?_))); (case side2 => exact HC0.out); rintro e w6 ⟨v281, rfl, ho0, hb⟩; refine ⟨_, rfl, ?_⟩; have n0_ := Aside0.mk (Kd.R_lower ho0 (below_size kz11_1)); have n1_ := Aside0.mk (below_step kz11_1 hb); clear HB; have HO282 := n0_; have HB := n1_; clear n0_ n1_; (try clear hb); (try clear hb2); (try clear hk); (try clear hi); (try clear ho0)))
  go_ret
  exact ⟨_, by first | rfl | (simp [errW_none, errW_some] <;> rfl) | (simp [*, errW_none, errW_some] <;> rfl), by (with_reducible repeat (first | apply Kd.R_alloc | apply Kd.R_drewN | apply Kd.R_drew)); exact HO282.out, by repeat (first | (with_reducible first | exact HB.out | apply below_alloc | apply pw_below_drewN | apply below_drew1) | exact HB.out)⟩
 ·rw [if_neg c4] at H
  have c4b0 : (a1 == a2) = false := beq_eq_false_iff_ne.mpr c4
  have c4b1 : (a1 != a2) = true := bne_iff_ne.mpr c4
  obtain ⟨y283, hy283⟩ : ∃ y_ : List Int, y_ = (([a1] : List Int)) := ⟨_, rfl⟩
  replace H : ((tree_Inner.f k l0 a1).bind fun t286 => (config_toward.l0 k l0 a1 a2 y283 t286 (t286.length : Int) 0)) = some r := by first | (rw [hy283]; with_reducible exact H) | (have H2_ := (Option.bind_some _ _).symm.trans H; rw [hy283]; with_reducible exact H2_) | (have H2_ := (Option.bind_some _ _).symm.trans H; with_reducible exact H2_) | with_reducible exact H | (rw [hy283]; exact H) | exact H
  have Ny283 := Aside0.mk hy283
  clear hy283
  replace H := Option.bind_eq_some_iff.mp H
  obtain ⟨t286, A70, H⟩ := H
  replace H : (config_toward.l0 k l0 a1 a2 y283 t286 (t286.length : Int) 0) = some r := H
  have A7 := Aside0.mk A70
  clear A70
  have H' := Aside0.mk H
  clear H
  go_enter Try.func95, Try.ntmps95
  go_wp2_with (first | ((with_reducible refine gate_dst (N := 17) rfl ?_); refine Kd.R_lit (Kd.int .i64) _ 3 ?hg (N := 17) ?hd (xs := ([a1] : List Int)) (inner := [.int .i64 a1]) (ok := fun _ => True) (okp := fun _ => True) ?hr ?hp (fun _ hk => hk) trivial (Below.refl _ _) (Nat.le_refl _) (by simp) ?_; (case hd => rfl); (case hg => rfl); (case hr => first | (go_simp; done) | (go_simp; rfl)); (case hp => exact (Reps.one (show Kd.M (Kd.int .i64) _ _ _ a1 [.int .i64 a1] from rfl) (Reps.none _ _))); intro v284 w8 ho9 hb hg_ hnew_; clear hg_ hnew_; (first | rw [← Ny283.out] at ho9 | (simp only [Int.reduceToNat] at ho9; rw [← Ny283.out] at ho9)); have n0_ := Aside0.mk (Kd.R_lower ho9 (below_size kz11_1)); have n1_ := Aside0.mk (below_step kz11_1 hb); clear HB; have HO285 := n0_; have HB := n1_; clear n0_ n1_; clear hb ho9) | ((with_reducible refine gate_callee (f := 85) rfl ?_); refine goesL_ (some 20) rfl rfl Try.func85 (by kernel_rfl) rfl #[.slice A0 l0.length c0, .int .i64 a1] rfl kz11_2 ?_; (with_reducible refine (tree_Inner.calls k _ _ l0 a1 t286 _ ?side1 ?side2 A7.out).mono ?_); (case side1 => repeat (first | exact (Kd.C_below HR0.out HB.out) | (with_reducible refine Kd.C_alloc ?_ _) | (with_reducible refine Kd.C_drewN ?_ _) | (with_reducible refine Kd.C_drew ?_))); (case side2 => exact HC0.out); rintro e w10 ⟨v287, rfl, ho0, hb⟩; refine ⟨_, rfl, ?_⟩; have n0_ := Aside0.mk (Kd.R_elder' (by (with_reducible repeat (first | apply Kd.R_alloc | apply Kd.R_drewN | apply Kd.R_drew)); exact HO285.out) (Kd.R_base ho0) hb); have n1_ := Aside0.mk (Kd.R_lower (Kd.R_new' ho0 (Kd.R_lt (by (with_reducible repeat (first | apply Kd.R_alloc | apply Kd.R_drewN | apply Kd.R_drew)); exact HO285.out))) (below_size kz11_1)); have n2_ := Aside0.mk (below_step kz11_1 hb); clear HO285; clear HB; have HO285 := n0_; have HO288 := n1_; have HB := n2_; clear n0_ n1_ n2_; (try clear hb); (try clear hb2); (try clear hk); (try clear hi); (try clear ho0); obtain ⟨Ao11, co11, eo11⟩ := Kd.R_slice HO288.out; subst eo11))
  go_loopg [7, 22] k (fun kq v7 v22 w' => ∃ (x7_1 : List Int) (x22_1 : Int), v22 = .int .i64 x22_1 ∧ Aside0 (config_toward.l0 kq l0 a1 a2 x7_1 t286 (t286.length : Int) x22_1 = some r) ∧ Aside0 (kq ≤ k) ∧ Aside0 (Kd.R (Kd.int .i64) 3 w' w.heap.size (fun k_ => some k_ ≠ ((.slice Ao11 t286.length co11) : Value).ownBlock) v7 x7_1) ∧ Aside0 (Kd.R (Kd.int .i64) 3 w' w.heap.size (fun k_ => some k_ ≠ (v7 : Value).ownBlock) (.slice Ao11 t286.length co11) t286) ∧ Aside0 (Below w.heap.size w w'))
  case atStart => exact ⟨(y283), (0), kz11_6, H', ⟨Nat.le_refl _⟩, ⟨by (with_reducible repeat (first | apply Kd.R_alloc | apply Kd.R_drewN | apply Kd.R_drew)); exact Kd.R_mono HO285.out (fun _ hk => hk.2)⟩, ⟨by (with_reducible repeat (first | apply Kd.R_alloc | apply Kd.R_drewN | apply Kd.R_drew)); exact Kd.R_mono HO288.out (fun _ hk => hk.2)⟩, ⟨by repeat (first | (with_reducible first | exact HB.out | apply below_alloc | apply pw_below_drewN | apply below_drew1) | exact HB.out)⟩⟩
  case round =>
   clear H'
   try clear p2
   try clear c4
   try clear c4b0
   try clear c4b1
   try clear c8
   try clear c9
   obtain ⟨x7_1, x22_1, rfl, HA, HK1, HO_7, HO_20, HB⟩ := hrel
   cases gk with
   | zero => exact absurd HA.out (by simp [config_toward.l0])
   | succ k1 =>
    have H := HA.out
    clear HA
    simp only [config_toward.l0] at H
    by_cases c12 : x22_1 < (t286.length : Int)
    ·rw [if_pos c12] at H
     have c12b0 : decide (x22_1 < (t286.length : Int)) = true := decide_eq_true c12
     clear c12
     by_cases c13 : 0 ≤ x22_1
     ·rw [if_pos c13] at H
      have c13b0 : decide (0 ≤ x22_1) = true := decide_eq_true c13
      clear c13
      by_cases c14 : x22_1 < (t286.length : Int)
      ·rw [if_pos c14] at H
       have c14b0 : decide (x22_1 < (t286.length : Int)) = true := decide_eq_true c14
       clear c14
       have HC15 := Aside0.mk H
       clear H
       have p289 : 0 ≤ (x22_1 : Int) := of_decide_eq_true kz11_5
       have q289 : x22_1 < (t286.length : Int) := of_decide_eq_true kz11_5
       obtain ⟨ad289, e289, hx289_0⟩ := Kd.at_int (Kd.R_reads' HO_20.out).2.2 x22_1 p289 q289
       cases e289
       replace p289 := eq_true p289
       replace q289 := eq_true q289
       go_upto_region 7 with (fail)
       go_cut [26] (fun v26 wc => ∃ (kq : Nat) (x26_14 : Bool), v26 = .bool x26_14 ∧ Aside0 (config_toward.j1 kq l0 a1 a2 x7_1 (rd t286 x22_1) t286 (t286.length : Int) x22_1 x26_14 = some r) ∧ Aside0 (kq ≤ k1) ∧ Aside0 (Kd.R (Kd.int .i64) 3 wc w.heap.size (fun k_ => some k_ ≠ ((.slice (some ad289) t286.length co11) : Value).ownBlock) u7 x7_1) ∧ Aside0 (Kd.R (Kd.int .i64) 3 wc w.heap.size (fun k_ => some k_ ≠ (u7 : Value).ownBlock) (.slice (some ad289) t286.length co11) t286) ∧ Aside0 (Below w.heap.size w wc))
       case first =>
        have H := HC15.out
        clear HC15
        by_cases c16 : (rd t286 x22_1) ≤ a2
        ·rw [if_pos c16] at H
         have c16b0 : decide ((rd t286 x22_1) ≤ a2) = true := decide_eq_true c16
         clear c16
         (first | rw [c16b0] | (simp only [i64_w, i32_w]; rw [c16b0]) | skip)
         by_cases c17 : 0 ≤ (rd t286 x22_1)
         ·rw [if_pos c17] at H
          have c17b0 : decide (0 ≤ (rd t286 x22_1)) = true := decide_eq_true c17
          clear c17
          by_cases c18 : (rd t286 x22_1) < (l0.length : Int)
          ·rw [if_pos c18] at H
           have c18b0 : decide ((rd t286 x22_1) < (l0.length : Int)) = true := decide_eq_true c18
           clear c18
           have H' := Aside0.mk H
           clear H
           have p290 : 0 ≤ ((rd t286 x22_1) : Int) := of_decide_eq_true kz11_5
           have q290 : (rd t286 x22_1) < (l0.length : Int) := of_decide_eq_true kz11_5
           obtain ⟨ad290, e290, hx290_0, hx290_1, hx290_2, hx290_3, hx290_4, hx290_5, hx290_6⟩ := at_T86 HR0.out (rd t286 x22_1) p290 q290
           cases e290
           replace hx290_0 := (HB.out.cell (World.block_lt_of_cell? w _ hx290_0)).trans hx290_0
           replace hx290_1 := (HB.out.cell (World.block_lt_of_cell? w _ hx290_1)).trans hx290_1
           replace hx290_2 := (HB.out.cell (World.block_lt_of_cell? w _ hx290_2)).trans hx290_2
           replace hx290_3 := (HB.out.cell (World.block_lt_of_cell? w _ hx290_3)).trans hx290_3
           replace hx290_4 := (HB.out.cell (World.block_lt_of_cell? w _ hx290_4)).trans hx290_4
           replace hx290_5 := (HB.out.cell (World.block_lt_of_cell? w _ hx290_5)).trans hx290_5
           replace hx290_6 := (HB.out.cell (World.block_lt_of_cell? w _ hx290_6)).trans hx290_6
           replace p290 := eq_true p290
           replace q290 := eq_true q290
           go_wp2
           go_meet
           case rel => exact ⟨_, (decide (a2 < ((rd_T86 l0 (rd t286 x22_1)).f3))), kz11_6, H', ⟨by have := HK1.out; first | omega | exact Nat.le_refl _⟩, ⟨by (with_reducible repeat (first | apply Kd.R_alloc | apply Kd.R_drewN | apply Kd.R_drew)); exact HO_7.out⟩, ⟨by (with_reducible repeat (first | apply Kd.R_alloc | apply Kd.R_drewN | apply Kd.R_drew)); exact HO_20.out⟩, ⟨by repeat (first | (with_reducible first | exact HB.out | apply below_alloc | apply pw_below_drewN | apply below_drew1) | exact HB.out)⟩⟩
          ·rw [if_neg c18] at H
           exact absurd H (by simp)
         ·rw [if_neg c17] at H
          exact absurd H (by simp)
        ·rw [if_neg c16] at H
         have c16b0 : decide ((rd t286 x22_1) ≤ a2) = false := decide_eq_false c16
         clear c16
         (first | rw [c16b0] | (simp only [i64_w, i32_w]; rw [c16b0]) | skip)
         have H' := Aside0.mk H
         clear H
         go_wp2
         go_meet
         case rel => exact ⟨_, (false), kz11_6, H', ⟨by have := HK1.out; first | omega | exact Nat.le_refl _⟩, ⟨by (with_reducible repeat (first | apply Kd.R_alloc | apply Kd.R_drewN | apply Kd.R_drew)); exact HO_7.out⟩, ⟨by (with_reducible repeat (first | apply Kd.R_alloc | apply Kd.R_drewN | apply Kd.R_drew)); exact HO_20.out⟩, ⟨by repeat (first | (with_reducible first | exact HB.out | apply below_alloc | apply pw_below_drewN | apply below_drew1) | exact HB.out)⟩⟩
       case rest =>
        clear HC15
        try clear c1
        try clear p2
        try clear q2
        try clear hx2
        try clear c4
        try clear c4b0
        try clear c4b1
        try clear c8
        try clear c9
        try clear c12
        try clear c12b0
        try clear c13
        try clear c13b0
        try clear c14
        try clear c14b0
        try clear c16
        try clear c16b0
        try clear c17
        try clear c17b0
        try clear c18
        try clear c18b0
        try clear hx289_0
        try clear hx290_0
        try clear hx290_1
        try clear hx290_2
        try clear hx290_3
        try clear hx290_4
        try clear hx290_5
        try clear hx290_6
        try clear p2
        try clear p289
        try clear p290
        try clear q289
        try clear q290
        obtain ⟨kq, x26_14, rfl, HA, HJ14, HO_7, HO_20, HB⟩ := hcut
        cases kq with
        | zero => exact absurd HA.out (by simp [config_toward.j1])
        | succ kj14 =>
         have H := HA.out
         clear HA
         simp only [config_toward.j1] at H
         by_cases c19 : x26_14 = true
         ·subst c19
          have H1 : ((config_toward.f kj14 l0 (rd t286 x22_1) a2).bind fun t291 => (if x7_1.length + t291.length < 17592186044416 then (config_toward.l0 kj14 l0 a1 a2 (x7_1 ++ t291) t286 (t286.length : Int) (wrap64 (x22_1 + 1))) else (none))) = some r := by rw [if_pos rfl] at H; exact H
          clear H
          have H := H1
          clear H1
          replace H := Option.bind_eq_some_iff.mp H
          obtain ⟨t291, A200, H⟩ := H
          replace H : (if x7_1.length + t291.length < 17592186044416 then (config_toward.l0 kj14 l0 a1 a2 (x7_1 ++ t291) t286 (t286.length : Int) (wrap64 (x22_1 + 1))) else (none)) = some r := H
          have A20 := Aside0.mk A200
          clear A200
          by_cases c21 : x7_1.length + t291.length < 17592186044416
          ·rw [if_pos c21] at H
           have LMc21 := Aside0.mk c21
           clear c21
           obtain ⟨y294, hy294⟩ : ∃ y_ : List Int, y_ = (x7_1 ++ t291) := ⟨_, rfl⟩
           replace H : (config_toward.l0 kj14 l0 a1 a2 y294 t286 (t286.length : Int) (wrap64 (x22_1 + 1))) = some r := by first | (rw [hy294]; with_reducible exact H) | (have H2_ := (Option.bind_some _ _).symm.trans H; rw [hy294]; with_reducible exact H2_) | (have H2_ := (Option.bind_some _ _).symm.trans H; with_reducible exact H2_) | with_reducible exact H | (rw [hy294]; exact H) | exact H
           have Ny294 := Aside0.mk hy294
           clear hy294
           have H' := Aside0.mk H
           clear H
           go_wp2_with (first | ((with_reducible refine gate_callee (f := 95) rfl ?_); refine goesL_ (some 43) rfl rfl Try.func95 (by kernel_rfl) rfl #[.slice A0 l0.length c0, .int .i64 (rd t286 x22_1), .int .i64 a2] rfl kz11_2 ?_; (with_reducible refine (ih kj14 (by have := HK1.out; have := HJ14.out; omega) _ _ l0 (rd t286 x22_1) a2 t291 _ ?side1 ?side2 A20.out).mono ?_); (case side1 => repeat (first | exact (Kd.C_below HR0.out HB.out) | (with_reducible refine Kd.C_alloc ?_ _) | (with_reducible refine Kd.C_drewN ?_ _) | (with_reducible refine Kd.C_drew ?_))); (case side2 => exact HC0.out); rintro e w22 ⟨v292, rfl, ho0, hb⟩; refine ⟨_, rfl, ?_⟩; have n0_ := Aside0.mk (Kd.R_elder' kz11_4 (Kd.R_base ho0) hb); have n1_ := Aside0.mk (Kd.R_elder' kz11_3 (Kd.R_base ho0) hb); have n2_ := Aside0.mk (Kd.R_lower (Kd.R_new' (Kd.R_new' ho0 (Kd.R_lt kz11_4)) (Kd.R_lt kz11_3)) (below_size kz11_1)); have n3_ := Aside0.mk (below_step kz11_1 hb); clear HO_7; clear HO_20; clear HB; have HO_7 := n0_; have HO_20 := n1_; have HO293 := n2_; have HB := n3_; clear n0_ n1_ n2_ n3_; (try clear hb); (try clear hb2); (try clear hk); (try clear hi); (try clear ho0); obtain ⟨Ao24, co24, eo24⟩ := Kd.R_slice HO293.out; subst eo24) | ((with_reducible refine gate_builtin (b := .append) (xs := #[.tmp 39, .tmp 43]) rfl ?_); at_builtin; refine Kd.R_append_rows (Kd.int .i64) (w0 := w) w.heap.size rfl (.tmp 39) (.tmp 43) 65 3 (.int .i64 0) 8 rfl Try.underlying65 info3 rfl (by decide) (by omega) u7 x7_1 t291 _ _ _ (fun k_ => some k_ ≠ (.slice (some ad289) t286.length co11 : Value).ownBlock ∧ some k_ ≠ (.slice Ao24 t291.length co24 : Value).ownBlock) (fun _ => False) rfl rfl ?aO ?aR (fun _ _ h => h) (fun _ h => h.elim) ?aF ?aB ?aS ?aL ?_; (case aR => repeat (first | exact (Kd.R_reads' HO293.out).2.2 | (with_reducible refine Kd.C_alloc ?_ _) | (with_reducible refine Kd.C_drewN ?_ _) | (with_reducible refine Kd.C_drew ?_))); (case aB => exact kz11_1); (case aF => exact (fun k_ hk => ⟨Kd.fresh' (Kd.R_lt kz11_3) k_ hk, Kd.fresh' (Kd.R_lt (by (with_reducible repeat (first | apply Kd.R_alloc | apply Kd.R_drewN | apply Kd.R_drew)); exact HO293.out)) k_ hk⟩)); (case aO => exact kz11_4); (case aS => exact (below_size kz11_1)); (case aL => have := LMc21.out; omega); intro v295 w23 ho hb hg hat; rw [← Ny294.out] at ho; have n0_ := Aside0.mk (Kd.R_after (ok := (fun k_ => some k_ ≠ (.slice Ao24 t291.length co24 : Value).ownBlock)) (by (with_reducible repeat (first | apply Kd.R_alloc | apply Kd.R_drewN | apply Kd.R_drew)); exact Kd.R_mono HO_20.out (fun _ hk => ⟨hk.2, hk.1⟩)) hg hat); have n1_ := Aside0.mk (Kd.R_after (ok := (fun k_ => some k_ ≠ (.slice (some ad289) t286.length co11 : Value).ownBlock)) (by (with_reducible repeat (first | apply Kd.R_alloc | apply Kd.R_drewN | apply Kd.R_drew)); exact Kd.R_mono HO293.out (fun _ hk => ⟨hk.2, hk.1.2⟩)) hg hat); have n2_ := Aside0.mk (hb); have n3_ := Aside0.mk (ho); clear HO_20; clear HO293; clear HB; clear HO_7; have HO_20 := n0_; have HO293 := n1_; have HB := n2_; have HO296 := n3_; clear n0_ n1_ n2_ n3_; clear ho hb hg hat))
           go_roundg kj14
           case measure => have := HK1.out; have := HJ14.out; omega
           case rel => exact ⟨(y294), (wrap64 (x22_1 + 1)), kz11_6, H', ⟨by have := HK1.out; have := HJ14.out; omega⟩, ⟨by (with_reducible repeat (first | apply Kd.R_alloc | apply Kd.R_drewN | apply Kd.R_drew)); exact Kd.R_mono HO296.out (fun _ hk => hk.1)⟩, ⟨by (with_reducible repeat (first | apply Kd.R_alloc | apply Kd.R_drewN | apply Kd.R_drew)); exact Kd.R_mono HO_20.out (fun _ hk => hk.2)⟩, ⟨by repeat (first | (with_reducible first | exact HB.out | apply below_alloc | apply pw_below_drewN | apply below_drew1) | exact HB.out)⟩⟩
          ·rw [if_neg c21] at H
           exact absurd H (by simp)
         ·replace c19 := Bool.eq_false_iff.mpr c19
          subst c19
          have H1 : (if 0 ≤ a1 then (if a1 < (l0.length : Int) then (if (rd_T86 l0 a1).f4 = true then ((config_enter.f kj14 l0 (rd t286 x22_1)).bind fun t298 => (if x7_1.length + t298.length < 17592186044416 then (config_toward.l0 kj14 l0 a1 a2 (x7_1 ++ t298) t286 (t286.length : Int) (wrap64 (x22_1 + 1))) else (none))) else (config_toward.l0 kj14 l0 a1 a2 x7_1 t286 (t286.length : Int) (wrap64 (x22_1 + 1)))) else (none)) else (none)) = some r := by rw [if_neg (show ¬ (false = true) by decide)] at H; exact H
          clear H
          have H := H1
          clear H1
          by_cases c25 : 0 ≤ a1
          ·rw [if_pos c25] at H
           have c25b0 : decide (0 ≤ a1) = true := decide_eq_true c25
           clear c25
           by_cases c26 : a1 < (l0.length : Int)
           ·rw [if_pos c26] at H
            have c26b0 : decide (a1 < (l0.length : Int)) = true := decide_eq_true c26
            clear c26
            obtain ⟨bq27, hbq27⟩ : ∃ b_ : Bool, b_ = ((rd_T86 l0 a1).f4) := ⟨_, rfl⟩
            replace H : (if bq27 = true then ((config_enter.f kj14 l0 (rd t286 x22_1)).bind fun t298 => (if x7_1.length + t298.length < 17592186044416 then (config_toward.l0 kj14 l0 a1 a2 (x7_1 ++ t298) t286 (t286.length : Int) (wrap64 (x22_1 + 1))) else (none))) else (config_toward.l0 kj14 l0 a1 a2 x7_1 t286 (t286.length : Int) (wrap64 (x22_1 + 1)))) = some r := by rw [← hbq27] at H; exact H
            have Nbq27 := Aside0.mk hbq27
            clear hbq27
            by_cases c28 : bq27 = true
            ·subst c28
             have H1 : ((config_enter.f kj14 l0 (rd t286 x22_1)).bind fun t298 => (if x7_1.length + t298.length < 17592186044416 then (config_toward.l0 kj14 l0 a1 a2 (x7_1 ++ t298) t286 (t286.length : Int) (wrap64 (x22_1 + 1))) else (none))) = some r := by rw [if_pos rfl] at H; exact H
             clear H
             have H := H1
             clear H1
             replace H := Option.bind_eq_some_iff.mp H
             obtain ⟨t298, A290, H⟩ := H
             replace H : (if x7_1.length + t298.length < 17592186044416 then (config_toward.l0 kj14 l0 a1 a2 (x7_1 ++ t298) t286 (t286.length : Int) (wrap64 (x22_1 + 1))) else (none)) = some r := H
             have A29 := Aside0.mk A290
             clear A290
             by_cases c30 : x7_1.length + t298.length < 17592186044416
             ·rw [if_pos c30] at H
              have LMc30 := Aside0.mk c30
              clear c30
              obtain ⟨y301, hy301⟩ : ∃ y_ : List Int, y_ = (x7_1 ++ t298) := ⟨_, rfl⟩
              replace H : (config_toward.l0 kj14 l0 a1 a2 y301 t286 (t286.length : Int) (wrap64 (x22_1 + 1))) = some r := by first | (rw [hy301]; with_reducible exact H) | (have H2_ := (Option.bind_some _ _).symm.trans H; rw [hy301]; with_reducible exact H2_) | (have H2_ := (Option.bind_some _ _).symm.trans H; with_reducible exact H2_) | with_reducible exact H | (rw [hy301]; exact H) | exact H
              have Ny301 := Aside0.mk hy301
              clear hy301
              have H' := Aside0.mk H
              clear H
              have p297 : 0 ≤ (a1 : Int) := of_decide_eq_true kz11_5
              have q297 : a1 < (l0.length : Int) := of_decide_eq_true kz11_5
              obtain ⟨ad297, e297, hx297_0, hx297_1, hx297_2, hx297_3, hx297_4, hx297_5, hx297_6⟩ := at_T86 HR0.out a1 p297 q297
              (try rw [← Nbq27.out] at hx297_4)
              (try rw [← Nbq27.out] at hx297_5)
              (try rw [← Nbq27.out] at hx297_6)
              cases e297
              replace hx297_0 := (HB.out.cell (World.block_lt_of_cell? w _ hx297_0)).trans hx297_0
              replace hx297_1 := (HB.out.cell (World.block_lt_of_cell? w _ hx297_1)).trans hx297_1
              replace hx297_2 := (HB.out.cell (World.block_lt_of_cell? w _ hx297_2)).trans hx297_2
              replace hx297_3 := (HB.out.cell (World.block_lt_of_cell? w _ hx297_3)).trans hx297_3
              replace hx297_4 := (HB.out.cell (World.block_lt_of_cell? w _ hx297_4)).trans hx297_4
              replace hx297_5 := (HB.out.cell (World.block_lt_of_cell? w _ hx297_5)).trans hx297_5
              replace hx297_6 := (HB.out.cell (World.block_lt_of_cell? w _ hx297_6)).trans hx297_6
              replace p297 := eq_true p297
              replace q297 := eq_true q297
              go_wp2_with (first | ((with_reducible refine gate_callee (f := 93) rfl ?_); refine goesL_ (some 54) rfl rfl Try.func93 (by kernel_rfl) rfl #[.slice (some ad297) l0.length c0, .int .i64 (rd t286 x22_1)] rfl kz11_2 ?_; (with_reducible refine (config_enter.calls kj14 _ _ l0 (rd t286 x22_1) t298 _ ?side1 ?side2 A29.out).mono ?_); (case side1 => repeat (first | exact (Kd.C_below HR0.out HB.out) | (with_reducible refine Kd.C_alloc ?_ _) | (with_reducible refine Kd.C_drewN ?_ _) | (with_reducible refine Kd.C_drew ?_))); (case side2 => exact HC0.out); rintro e w31 ⟨v299, rfl, ho0, hb⟩; refine ⟨_, rfl, ?_⟩; have n0_ := Aside0.mk (Kd.R_elder' kz11_4 (Kd.R_base ho0) hb); have n1_ := Aside0.mk (Kd.R_elder' kz11_3 (Kd.R_base ho0) hb); have n2_ := Aside0.mk (Kd.R_lower (Kd.R_new' (Kd.R_new' ho0 (Kd.R_lt kz11_4)) (Kd.R_lt kz11_3)) (below_size kz11_1)); have n3_ := Aside0.mk (below_step kz11_1 hb); clear HO_7; clear HO_20; clear HB; have HO_7 := n0_; have HO_20 := n1_; have HO300 := n2_; have HB := n3_; clear n0_ n1_ n2_ n3_; (try clear hb); (try clear hb2); (try clear hk); (try clear hi); (try clear ho0); obtain ⟨Ao33, co33, eo33⟩ := Kd.R_slice HO300.out; subst eo33) | ((with_reducible refine gate_builtin (b := .append) (xs := #[.tmp 51, .tmp 54]) rfl ?_); at_builtin; refine Kd.R_append_rows (Kd.int .i64) (w0 := w) w.heap.size rfl (.tmp 51) (.tmp 54) 65 3 (.int .i64 0) 8 rfl Try.underlying65 info3 rfl (by decide) (by omega) u7 x7_1 t298 _ _ _ (fun k_ => some k_ ≠ (.slice (some ad289) t286.length co11 : Value).ownBlock ∧ some k_ ≠ (.slice Ao33 t298.length co33 : Value).ownBlock) (fun _ => False) rfl rfl ?aO ?aR (fun _ _ h => h) (fun _ h => h.elim) ?aF ?aB ?aS ?aL ?_; (case aR => repeat (first | exact (Kd.R_reads' HO300.out).2.2 | (with_reducible refine Kd.C_alloc ?_ _) | (with_reducible refine Kd.C_drewN ?_ _) | (with_reducible refine Kd.C_drew ?_))); (case aB => exact kz11_1); (case aF => exact (fun k_ hk => ⟨Kd.fresh' (Kd.R_lt kz11_3) k_ hk, Kd.fresh' (Kd.R_lt (by (with_reducible repeat (first | apply Kd.R_alloc | apply Kd.R_drewN | apply Kd.R_drew)); exact HO300.out)) k_ hk⟩)); (case aO => exact kz11_4); (case aS => exact (below_size kz11_1)); (case aL => have := LMc30.out; omega); intro v302 w32 ho hb hg hat; rw [← Ny301.out] at ho; have n0_ := Aside0.mk (Kd.R_after (ok := (fun k_ => some k_ ≠ (.slice Ao33 t298.length co33 : Value).ownBlock)) (by (with_reducible repeat (first | apply Kd.R_alloc | apply Kd.R_drewN | apply Kd.R_drew)); exact Kd.R_mono HO_20.out (fun _ hk => ⟨hk.2, hk.1⟩)) hg hat); have n1_ := Aside0.mk (Kd.R_after (ok := (fun k_ => some k_ ≠ (.slice (some ad289) t286.length co11 : Value).ownBlock)) (by (with_reducible repeat (first | apply Kd.R_alloc | apply Kd.R_drewN | apply Kd.R_drew)); exact Kd.R_mono HO300.out (fun _ hk => ⟨hk.2, hk.1.2⟩)) hg hat); have n2_ := Aside0.mk (hb); have n3_ := Aside0.mk (ho); clear HO_20; clear HO300; clear HB; clear HO_7; have HO_20 := n0_; have HO300 := n1_; have HB := n2_; have HO303 := n3_; clear n0_ n1_ n2_ n3_; clear ho hb hg hat))
              go_roundg kj14
              case measure => have := HK1.out; have := HJ14.out; omega
              case rel => exact ⟨(y301), (wrap64 (x22_1 + 1)), kz11_6, H', ⟨by have := HK1.out; have := HJ14.out; omega⟩, ⟨by (with_reducible repeat (first | apply Kd.R_alloc | apply Kd.R_drewN | apply Kd.R_drew)); exact Kd.R_mono HO303.out (fun _ hk => hk.1)⟩, ⟨by (with_reducible repeat (first | apply Kd.R_alloc | apply Kd.R_drewN | apply Kd.R_drew)); exact Kd.R_mono HO_20.out (fun _ hk => hk.2)⟩, ⟨by repeat (first | (with_reducible first | exact HB.out | apply below_alloc | apply pw_below_drewN | apply below_drew1) | exact HB.out)⟩⟩
             ·rw [if_neg c30] at H
              exact absurd H (by simp)
            ·replace c28 := Bool.eq_false_iff.mpr c28
             subst c28
             have H1 : (config_toward.l0 kj14 l0 a1 a2 x7_1 t286 (t286.length : Int) (wrap64 (x22_1 + 1))) = some r := by rw [if_neg (show ¬ (false = true) by decide)] at H; exact H
             clear H
             have H := H1
             clear H1
             have H' := Aside0.mk H
             clear H
             have p297 : 0 ≤ (a1 : Int) := of_decide_eq_true kz11_5
             have q297 : a1 < (l0.length : Int) := of_decide_eq_true kz11_5
             obtain ⟨ad297, e297, hx297_0, hx297_1, hx297_2, hx297_3, hx297_4, hx297_5, hx297_6⟩ := at_T86 HR0.out a1 p297 q297
             (try rw [← Nbq27.out] at hx297_4)
             (try rw [← Nbq27.out] at hx297_5)
             (try rw [← Nbq27.out] at hx297_6)
             cases e297
             replace hx297_0 := (HB.out.cell (World.block_lt_of_cell? w _ hx297_0)).trans hx297_0
             replace hx297_1 := (HB.out.cell (World.block_lt_of_cell? w _ hx297_1)).trans hx297_1
             replace hx297_2 := (HB.out.cell (World.block_lt_of_cell? w _ hx297_2)).trans hx297_2
             replace hx297_3 := (HB.out.cell (World.block_lt_of_cell? w _ hx297_3)).trans hx297_3
             replace hx297_4 := (HB.out.cell (World.block_lt_of_cell? w _ hx297_4)).trans hx297_4
             replace hx297_5 := (HB.out.cell (World.block_lt_of_cell? w _ hx297_5)).trans hx297_5
             replace hx297_6 := (HB.out.cell (World.block_lt_of_cell? w _ hx297_6)).trans hx297_6
             replace p297 := eq_true p297
             replace q297 := eq_true q297
             go_wp2
             go_roundg kj14
             case measure => have := HK1.out; have := HJ14.out; omega
             case rel => exact ⟨(x7_1), (wrap64 (x22_1 + 1)), kz11_6, H', ⟨by have := HK1.out; have := HJ14.out; omega⟩, ⟨by (with_reducible repeat (first | apply Kd.R_alloc | apply Kd.R_drewN | apply Kd.R_drew)); exact HO_7.out⟩, ⟨by (with_reducible repeat (first | apply Kd.R_alloc | apply Kd.R_drewN | apply Kd.R_drew)); exact HO_20.out⟩, ⟨by repeat (first | (with_reducible first | exact HB.out | apply below_alloc | apply pw_below_drewN | apply below_drew1) | exact HB.out)⟩⟩
           ·rw [if_neg c26] at H
            exact absurd H (by simp)
          ·rw [if_neg c25] at H
           exact absurd H (by simp)
      ·rw [if_neg c14] at H
       exact absurd H (by simp)
     ·rw [if_neg c13] at H
      exact absurd H (by simp)
    ·rw [if_neg c12] at H
     have c12b0 : decide (x22_1 < (t286.length : Int)) = false := decide_eq_false c12
     clear c12
     obtain rfl := Option.some.inj H
     go_wp2
     go_ret
     exact ⟨_, by first | rfl | (simp [errW_none, errW_some] <;> rfl) | (simp [*, errW_none, errW_some] <;> rfl), by (with_reducible repeat (first | apply Kd.R_alloc | apply Kd.R_drewN | apply Kd.R_drew)); exact Kd.R_mono HO_7.out (fun _ hk => trivial), by repeat (first | (with_reducible first | exact HB.out | apply below_alloc | apply pw_below_drewN | apply below_drew1) | exact HB.out)⟩

end Go.Proofs.Ytjghlomkimoeoaa.PConfigAsks
