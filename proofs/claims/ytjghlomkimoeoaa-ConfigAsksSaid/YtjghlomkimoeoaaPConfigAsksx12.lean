-- Written by fprint.py (wip), by way of the printer's functions; where they are turned, by texts of mine.
import Derived.Test.YtjghlomkimoeoaaPConfigAsksx0
import Derived.Test.YtjghlomkimoeoaaPConfigAsksx3
import Derived.Test.YtjghlomkimoeoaaPConfigAsksx5
import Derived.Test.YtjghlomkimoeoaaPConfigAsksx6
import Derived.Test.YtjghlomkimoeoaaPConfigAsksx7
import Derived.Test.YtjghlomkimoeoaaPConfigAsksx10
import Derived.Test.YtjghlomkimoeoaaPConfigAsksx11
namespace Go.Proofs.Ytjghlomkimoeoaa.PConfigAsks
open Go.RowKit Go.Proofs.YtjghlomkimoeoaaW.PrintWords Go.Proofs.YtjghlomkimoeoaaW.PrintLast Go.Proofs.YtjghlomkimoeoaaW.PrintMore
attribute [local go_sem] max2_int min2_int max_two min_two max_three min_three max_four min_four   -- for this text's walks alone
set_option linter.unusedVariables false
set_option linter.unusedSimpArgs false
theorem kz12_1 {p_ : Prop} (h_ : p_ := by (try simp only [List.map_toArray, List.map_cons, List.map_nil]); first | done | rfl | (simp only [List.length_drop, List.length_take]; rfl)) : p_ := h_
theorem kz12_2 {p_ : Prop} (h_ : p_ := by repeat (first | (with_reducible first | exact HB.out | apply below_alloc | apply pw_below_drewN | apply below_drew1) | exact HB.out)) : p_ := h_
theorem kz12_3 {p_ : Prop} (h_ : p_ := by first | (with_reducible assumption) | assumption) : p_ := h_
theorem kz12_4 {p_ : Prop} (h_ : p_ := by (with_reducible repeat (first | apply Kd.R_alloc | apply Kd.R_drewN | apply Kd.R_drew)); exact HO_8.out) : p_ := h_
theorem kz12_5 {p_ : Prop} (h_ : p_ := by (with_reducible repeat (first | apply Kd.R_alloc | apply Kd.R_drewN | apply Kd.R_drew)); exact HO_7.out) : p_ := h_
theorem kz12_6 {p_ : Prop} (h_ : p_ := by first | rfl | (simp; done) | (simp [*]; done)) : p_ := h_

/-! ### config_Enter: function 51 -/
mutual
def config_Enter.j0 : Nat → List (S86) → Int → Int → Bool → Option (List Int)
 | 0, _, _, _, _ => none
 | k + 1, x0, x1, x2, x24 => if x24 = true then (some ([] : List Int)) else ((tree_Inner.f k x0 x1).bind fun t306 => (config_Enter.l0 k x0 x2 t306 (t306.length : Int) 0))
def config_Enter.l0 : Nat → List (S86) → Int → List Int → Int → Int → Option (List Int)
 | 0, _, _, _, _, _ => none
 | k + 1, x0, x2, x27, x28, x29 => if x29 < x28 then (if 0 ≤ x29 then (if x29 < (x27.length : Int) then (if (rd x27 x29) ≤ x2 then (if 0 ≤ (rd x27 x29) then (if (rd x27 x29) < (x0.length : Int) then (if x2 < ((rd_T86 x0 (rd x27 x29)).f3) then ((config_toward.f k x0 (rd x27 x29) x2).bind fun t311 => (some t311)) else (config_Enter.l0 k x0 x2 x27 x28 (wrap64 (x29 + 1)))) else (none)) else (none)) else (config_Enter.l0 k x0 x2 x27 x28 (wrap64 (x29 + 1)))) else (none)) else (none)) else (some ([] : List Int))
end
def config_Enter.f (k : Nat) (l0 : List (S86)) (a1 : Int) (a2 : Int) : Option (List Int) := (config_formed.f k l0 a2).bind fun t304 => (if t304 = true then (if a1 = a2 then (config_Enter.j0 k l0 a1 a2 true) else ((tree_Within.f k l0 a2 a1).bind fun t305 => (config_Enter.j0 k l0 a1 a2 (!t305)))) else (config_Enter.j0 k l0 a1 a2 true))
theorem config_Enter.mono_l : ∀ k, (∀ y0 y1 y2 y3, LeO (config_Enter.j0 k y0 y1 y2 y3) (config_Enter.j0 (k + 1) y0 y1 y2 y3)) ∧ (∀ y0 y1 y2 y3 y4, LeO (config_Enter.l0 k y0 y1 y2 y3 y4) (config_Enter.l0 (k + 1) y0 y1 y2 y3 y4))
 | 0 => ⟨fun _ _ _ _ r h => by simp [config_Enter.j0] at h, fun _ _ _ _ _ r h => by simp [config_Enter.l0] at h⟩
 | k + 1 => by
  obtain ⟨ih0, ih1⟩ := config_Enter.mono_l k
  refine ⟨?_, ?_⟩
  ·intro y0 y1 y2 y3
   unfold config_Enter.j0
   repeat' first
   | (with_reducible exact ih0 _ _ _ _)
   | (with_reducible exact ih1 _ _ _ _ _)
   | (with_reducible exact config_formed.mono _ _ _)
   | (with_reducible exact config_toward.mono _ _ _ _)
   | (with_reducible exact tree_Inner.mono _ _ _)
   | (with_reducible exact tree_Within.mono _ _ _ _)
   | (with_reducible exact LeO.refl _)
   | (with_reducible exact LeO.none _)
   | (with_reducible refine LeO.ite ?_ ?_)
   | (with_reducible refine LeO.bind ?_ (fun _ => ?_))
   | exact ih0 _ _ _ _
   | exact ih1 _ _ _ _ _
   | exact config_formed.mono _ _ _
   | exact config_toward.mono _ _ _ _
   | exact tree_Inner.mono _ _ _
   | exact tree_Within.mono _ _ _ _
   | exact LeO.none _
   | refine LeO.ite ?_ ?_
   | refine LeO.bind ?_ (fun _ => ?_)
  ·intro y0 y1 y2 y3 y4
   unfold config_Enter.l0
   repeat' first
   | (with_reducible exact ih0 _ _ _ _)
   | (with_reducible exact ih1 _ _ _ _ _)
   | (with_reducible exact config_formed.mono _ _ _)
   | (with_reducible exact config_toward.mono _ _ _ _)
   | (with_reducible exact tree_Inner.mono _ _ _)
   | (with_reducible exact tree_Within.mono _ _ _ _)
   | (with_reducible exact LeO.refl _)
   | (with_reducible exact LeO.none _)
   | (with_reducible refine LeO.ite ?_ ?_)
   | (with_reducible refine LeO.bind ?_ (fun _ => ?_))
   | exact ih0 _ _ _ _
   | exact ih1 _ _ _ _ _
   | exact config_formed.mono _ _ _
   | exact config_toward.mono _ _ _ _
   | exact tree_Inner.mono _ _ _
   | exact tree_Within.mono _ _ _ _
   | exact LeO.none _
   | refine LeO.ite ?_ ?_
   | refine LeO.bind ?_ (fun _ => ?_)
theorem config_Enter.mono : ∀ a0 a1 a2 k, LeO (config_Enter.f k a0 a1 a2) (config_Enter.f (k + 1) a0 a1 a2) := by
 intro a0 a1 a2 k
 obtain ⟨ih0, ih1⟩ := config_Enter.mono_l k
 unfold config_Enter.f
 repeat' first
   | (with_reducible exact ih0 _ _ _ _)
   | (with_reducible exact ih1 _ _ _ _ _)
   | (with_reducible exact config_formed.mono _ _ _)
   | (with_reducible exact config_toward.mono _ _ _ _)
   | (with_reducible exact tree_Inner.mono _ _ _)
   | (with_reducible exact tree_Within.mono _ _ _ _)
   | (with_reducible exact LeO.refl _)
   | (with_reducible exact LeO.none _)
   | (with_reducible refine LeO.ite ?_ ?_)
   | (with_reducible refine LeO.bind ?_ (fun _ => ?_))
   | exact ih0 _ _ _ _
   | exact ih1 _ _ _ _ _
   | exact config_formed.mono _ _ _
   | exact config_toward.mono _ _ _ _
   | exact tree_Inner.mono _ _ _
   | exact tree_Within.mono _ _ _ _
   | exact LeO.none _
   | refine LeO.ite ?_ ?_
   | refine LeO.bind ?_ (fun _ => ?_)
set_option maxHeartbeats 8000000 in
set_option maxRecDepth 100000 in
theorem config_Enter.calls (k : Nat) (A0 : Option Addr) (c0 : Nat) (l0 : List (S86)) (a1 : Int) (a2 : Int) (r : List Int) (w : World) (hr0 : Kd.C k86 w A0 l0.length l0) (hc0 : l0.length ≤ c0) (h : config_Enter.f k l0 a1 a2 = some r) :
  Calls Try.prog 51 #[.slice A0 l0.length c0, .int .i64 a1, .int .i64 a2] w fun e w' => ∃ v0_ : Value, e = .returned (v0_) ∧ Kd.R (Kd.int .i64) 3 w' w.heap.size (fun _ => True) v0_ r ∧ Below w.heap.size w w' := by
 have HR0 := Aside0.mk hr0
 have HC0 := Aside0.mk hc0
 clear hr0 hc0
 have HB := Aside0.mk (Below.refl w.heap.size w)
 have H : ((config_formed.f k l0 a2).bind fun t304 => (if t304 = true then (if a1 = a2 then (config_Enter.j0 k l0 a1 a2 true) else ((tree_Within.f k l0 a2 a1).bind fun t305 => (config_Enter.j0 k l0 a1 a2 (!t305)))) else (config_Enter.j0 k l0 a1 a2 true))) = some r := h
 clear h
 have HC4 := Aside0.mk H
 clear H
 go_enter Try.func51, Try.ntmps51
 go_upto_region 1 with (fail)
 go_cut [24] (fun v24 wc => ∃ (kq : Nat) (x24_3 : Bool), v24 = .bool x24_3 ∧ Aside0 (config_Enter.j0 kq l0 a1 a2 x24_3 = some r) ∧ Aside0 (kq ≤ k) ∧ Aside0 (Below w.heap.size w wc))
 case first =>
  have H := HC4.out
  clear HC4
  replace H := Option.bind_eq_some_iff.mp H
  obtain ⟨t304, A50, H⟩ := H
  replace H : (if t304 = true then (if a1 = a2 then (config_Enter.j0 k l0 a1 a2 true) else ((tree_Within.f k l0 a2 a1).bind fun t305 => (config_Enter.j0 k l0 a1 a2 (!t305)))) else (config_Enter.j0 k l0 a1 a2 true)) = some r := H
  have A5 := Aside0.mk A50
  clear A50
  by_cases c6 : t304 = true
  ·subst c6
   have H1 : (if a1 = a2 then (config_Enter.j0 k l0 a1 a2 true) else ((tree_Within.f k l0 a2 a1).bind fun t305 => (config_Enter.j0 k l0 a1 a2 (!t305)))) = some r := by rw [if_pos rfl] at H; exact H
   clear H
   have H := H1
   clear H1
   by_cases c7 : a1 = a2
   ·rw [if_pos c7] at H
    have c7b0 : (a1 == a2) = true := beq_iff_eq.mpr c7
    have c7b1 : (a1 != a2) = false := bne_eq_false_iff_eq.mpr c7
    clear c7
    (first | rw [c7b0] | (simp only [i64_w, i32_w]; rw [c7b0]) | skip)
    have H' := Aside0.mk H
    clear H
    go_wp2_with (first | ((with_reducible refine gate_callee (f := 92) rfl ?_); refine goesL_ (some 11) rfl rfl Try.func92 (by kernel_rfl) rfl #[.slice A0 l0.length c0, .int .i64 a2] rfl kz12_1 ?_; (with_reducible refine (config_formed.calls k _ _ l0 a2 true _ ?side1 ?side2 A5.out).mono ?_); (case side1 => repeat (first | exact (Kd.C_below HR0.out HB.out) | (with_reducible refine Kd.C_alloc ?_ _) | (with_reducible refine Kd.C_drewN ?_ _) | (with_reducible refine Kd.C_drew ?_))); (case side2 => exact HC0.out); rintro e w8 ⟨rfl, hb⟩; refine ⟨_, rfl, ?_⟩; have n0_ := Aside0.mk (below_step kz12_2 hb); clear HB; have HB := n0_; clear n0_; (try clear hb); (try clear hb2); (try clear hk); (try clear hi)))
    go_meet
    case rel => exact ⟨_, (true), kz12_6, H', ⟨by first | omega | exact Nat.le_refl _⟩, ⟨by repeat (first | (with_reducible first | exact HB.out | apply below_alloc | apply pw_below_drewN | apply below_drew1) | exact HB.out)⟩⟩
   ·rw [if_neg c7] at H
    have c7b0 : (a1 == a2) = false := beq_eq_false_iff_ne.mpr c7
    have c7b1 : (a1 != a2) = true := bne_iff_ne.mpr c7
    (first | rw [c7b0] | (simp only [i64_w, i32_w]; rw [c7b0]) | skip)
    replace H := Option.bind_eq_some_iff.mp H
    obtain ⟨t305, A90, H⟩ := H
    replace H : (config_Enter.j0 k l0 a1 a2 (!t305)) = some r := H
    have A9 := Aside0.mk A90
    clear A90
    have H' := Aside0.mk H
    clear H
    go_wp2_with (first | ((with_reducible refine gate_callee (f := 92) rfl ?_); refine goesL_ (some 11) rfl rfl Try.func92 (by kernel_rfl) rfl #[.slice A0 l0.length c0, .int .i64 a2] rfl kz12_1 ?_; (with_reducible refine (config_formed.calls k _ _ l0 a2 true _ ?side1 ?side2 A5.out).mono ?_); (case side1 => repeat (first | exact (Kd.C_below HR0.out HB.out) | (with_reducible refine Kd.C_alloc ?_ _) | (with_reducible refine Kd.C_drewN ?_ _) | (with_reducible refine Kd.C_drew ?_))); (case side2 => exact HC0.out); rintro e w10 ⟨rfl, hb⟩; refine ⟨_, rfl, ?_⟩; have n0_ := Aside0.mk (below_step kz12_2 hb); clear HB; have HB := n0_; clear n0_; (try clear hb); (try clear hb2); (try clear hk); (try clear hi)) | (go_at_call 29; (with_reducible refine (tree_Within.calls k _ _ l0 a2 a1 t305 _ ?side1 ?side2 A9.out).mono ?_); (case side1 => repeat (first | exact (Kd.C_below HR0.out HB.out) | (with_reducible refine Kd.C_alloc ?_ _) | (with_reducible refine Kd.C_drewN ?_ _) | (with_reducible refine Kd.C_drew ?_))); (case side2 => exact HC0.out); rintro e w11 ⟨rfl, hb⟩; have n0_ := Aside0.mk (below_step kz12_2 hb); clear HB; have HB := n0_; clear n0_; (try clear hb); (try clear hb2); (try clear hk); (try clear hi)))
    go_meet
    case rel => exact ⟨_, (!t305), kz12_6, H', ⟨by first | omega | exact Nat.le_refl _⟩, ⟨by repeat (first | (with_reducible first | exact HB.out | apply below_alloc | apply pw_below_drewN | apply below_drew1) | exact HB.out)⟩⟩
  ·replace c6 := Bool.eq_false_iff.mpr c6
   subst c6
   have H1 : (config_Enter.j0 k l0 a1 a2 true) = some r := by rw [if_neg (show ¬ (false = true) by decide)] at H; exact H
   clear H
   have H := H1
   clear H1
   have H' := Aside0.mk H
   clear H
   go_wp2_with (first | ((with_reducible refine gate_callee (f := 92) rfl ?_); refine goesL_ (some 11) rfl rfl Try.func92 (by kernel_rfl) rfl #[.slice A0 l0.length c0, .int .i64 a2] rfl kz12_1 ?_; (with_reducible refine (config_formed.calls k _ _ l0 a2 false _ ?side1 ?side2 A5.out).mono ?_); (case side1 => repeat (first | exact (Kd.C_below HR0.out HB.out) | (with_reducible refine Kd.C_alloc ?_ _) | (with_reducible refine Kd.C_drewN ?_ _) | (with_reducible refine Kd.C_drew ?_))); (case side2 => exact HC0.out); rintro e w12 ⟨rfl, hb⟩; refine ⟨_, rfl, ?_⟩; have n0_ := Aside0.mk (below_step kz12_2 hb); clear HB; have HB := n0_; clear n0_; (try clear hb); (try clear hb2); (try clear hk); (try clear hi)))
   go_meet
   case rel => exact ⟨_, (true), kz12_6, H', ⟨by first | omega | exact Nat.le_refl _⟩, ⟨by repeat (first | (with_reducible first | exact HB.out | apply below_alloc | apply pw_below_drewN | apply below_drew1) | exact HB.out)⟩⟩
 case rest =>
  clear HC4
  try clear p2
  try clear c5
  try clear c6
  try clear c7
  try clear c7b0
  try clear c7b1
  try clear c9
  obtain ⟨kq, x24_3, rfl, HA, HJ3, HB⟩ := hcut
  cases kq with
  | zero => exact absurd HA.out (by simp [config_Enter.j0])
  | succ kj3 =>
   have H := HA.out
   clear HA
   simp only [config_Enter.j0] at H
   by_cases c13 : x24_3 = true
   ·subst c13
    have H1 : (some ([] : List Int)) = some r := by rw [if_pos rfl] at H; exact H
    clear H
    have H := H1
    clear H1
    obtain rfl := Option.some.inj H
    go_wp2
    go_ret
    exact ⟨_, by first | rfl | (simp [errW_none, errW_some] <;> rfl) | (simp [*, errW_none, errW_some] <;> rfl), by first | exact Kd.R_nil _ _ _ _ _ | exact Kd.N_nil _ _ _ _ _ | exact Kd.V_nil _ _ _ _ _ | exact Kd.Q_nil _ _ _ _ _ | exact Kd.S_nil _ _ _ _ _, by repeat (first | (with_reducible first | exact HB.out | apply below_alloc | apply pw_below_drewN | apply below_drew1) | exact HB.out)⟩
   ·replace c13 := Bool.eq_false_iff.mpr c13
    subst c13
    have H1 : ((tree_Inner.f kj3 l0 a1).bind fun t306 => (config_Enter.l0 kj3 l0 a2 t306 (t306.length : Int) 0)) = some r := by rw [if_neg (show ¬ (false = true) by decide)] at H; exact H
    clear H
    have H := H1
    clear H1
    replace H := Option.bind_eq_some_iff.mp H
    obtain ⟨t306, A140, H⟩ := H
    replace H : (config_Enter.l0 kj3 l0 a2 t306 (t306.length : Int) 0) = some r := H
    have A14 := Aside0.mk A140
    clear A140
    have H' := Aside0.mk H
    clear H
    go_wp2_with (first | ((with_reducible refine gate_callee (f := 85) rfl ?_); refine goesL_ (some 27) rfl rfl Try.func85 (by kernel_rfl) rfl #[.slice A0 l0.length c0, .int .i64 a1] rfl kz12_1 ?_; (with_reducible refine (tree_Inner.calls kj3 _ _ l0 a1 t306 _ ?side1 ?side2 A14.out).mono ?_); (case side1 => repeat (first | exact (Kd.C_below HR0.out HB.out) | (with_reducible refine Kd.C_alloc ?_ _) | (with_reducible refine Kd.C_drewN ?_ _) | (with_reducible refine Kd.C_drew ?_))); (case side2 => exact HC0.out); rintro e w15 ⟨v307, rfl, ho0, hb⟩; refine ⟨_, rfl, ?_⟩; have n0_ := Aside0.mk (Kd.R_lower ho0 (below_size kz12_2)); have n1_ := Aside0.mk (below_step kz12_2 hb); clear HB; have HO308 := n0_; have HB := n1_; clear n0_ n1_; (try clear hb); (try clear hb2); (try clear hk); (try clear hi); (try clear ho0); obtain ⟨Ao16, co16, eo16⟩ := Kd.R_slice HO308.out; subst eo16))
    go_loopg [29] kj3 (fun kq v29 w' => ∃ (x29_2 : Int), v29 = .int .i64 x29_2 ∧ Aside0 (config_Enter.l0 kq l0 a2 t306 (t306.length : Int) x29_2 = some r) ∧ Aside0 (kq ≤ kj3) ∧ Aside0 (Kd.R (Kd.int .i64) 3 w' w.heap.size (fun _ => True) (.slice Ao16 t306.length co16) t306) ∧ Aside0 (Below w.heap.size w w'))
    case atStart => exact ⟨(0), kz12_6, H', ⟨Nat.le_refl _⟩, ⟨by (with_reducible repeat (first | apply Kd.R_alloc | apply Kd.R_drewN | apply Kd.R_drew)); exact HO308.out⟩, ⟨by repeat (first | (with_reducible first | exact HB.out | apply below_alloc | apply pw_below_drewN | apply below_drew1) | exact HB.out)⟩⟩
    case round =>
     clear H'
     try clear c1
     try clear p2
     try clear c5
     try clear c6
     try clear c7
     try clear c7b0
     try clear c7b1
     try clear c8
     try clear c9
     try clear c13
     try clear p2
     obtain ⟨x29_2, rfl, HA, HK2, HO_27, HB⟩ := hrel
     cases gk with
     | zero => exact absurd HA.out (by simp [config_Enter.l0])
     | succ k2 =>
      have H := HA.out
      clear HA
      simp only [config_Enter.l0] at H
      by_cases c17 : x29_2 < (t306.length : Int)
      ·rw [if_pos c17] at H
       have c17b0 : decide (x29_2 < (t306.length : Int)) = true := decide_eq_true c17
       clear c17
       by_cases c18 : 0 ≤ x29_2
       ·rw [if_pos c18] at H
        have c18b0 : decide (0 ≤ x29_2) = true := decide_eq_true c18
        clear c18
        by_cases c19 : x29_2 < (t306.length : Int)
        ·rw [if_pos c19] at H
         have c19b0 : decide (x29_2 < (t306.length : Int)) = true := decide_eq_true c19
         clear c19
         by_cases c20 : (rd t306 x29_2) ≤ a2
         ·rw [if_pos c20] at H
          have c20b0 : decide ((rd t306 x29_2) ≤ a2) = true := decide_eq_true c20
          clear c20
          by_cases c21 : 0 ≤ (rd t306 x29_2)
          ·rw [if_pos c21] at H
           have c21b0 : decide (0 ≤ (rd t306 x29_2)) = true := decide_eq_true c21
           clear c21
           by_cases c22 : (rd t306 x29_2) < (l0.length : Int)
           ·rw [if_pos c22] at H
            have c22b0 : decide ((rd t306 x29_2) < (l0.length : Int)) = true := decide_eq_true c22
            clear c22
            by_cases c23 : a2 < ((rd_T86 l0 (rd t306 x29_2)).f3)
            ·rw [if_pos c23] at H
             have c23b0 : decide (a2 < ((rd_T86 l0 (rd t306 x29_2)).f3)) = true := decide_eq_true c23
             clear c23
             replace H := Option.bind_eq_some_iff.mp H
             obtain ⟨t311, A240, H⟩ := H
             replace H : (some t311) = some r := H
             have A24 := Aside0.mk A240
             clear A240
             obtain rfl := Option.some.inj H
             have p309 : 0 ≤ (x29_2 : Int) := of_decide_eq_true kz12_3
             have q309 : x29_2 < (t306.length : Int) := of_decide_eq_true kz12_3
             obtain ⟨ad309, e309, hx309_0⟩ := Kd.at_int (Kd.R_reads' HO_27.out).2.2 x29_2 p309 q309
             cases e309
             replace p309 := eq_true p309
             replace q309 := eq_true q309
             have p310 : 0 ≤ ((rd t306 x29_2) : Int) := of_decide_eq_true kz12_3
             have q310 : (rd t306 x29_2) < (l0.length : Int) := of_decide_eq_true kz12_3
             obtain ⟨ad310, e310, hx310_0, hx310_1, hx310_2, hx310_3, hx310_4, hx310_5, hx310_6⟩ := at_T86 HR0.out (rd t306 x29_2) p310 q310
             cases e310
             replace hx310_0 := (HB.out.cell (World.block_lt_of_cell? w _ hx310_0)).trans hx310_0
             replace hx310_1 := (HB.out.cell (World.block_lt_of_cell? w _ hx310_1)).trans hx310_1
             replace hx310_2 := (HB.out.cell (World.block_lt_of_cell? w _ hx310_2)).trans hx310_2
             replace hx310_3 := (HB.out.cell (World.block_lt_of_cell? w _ hx310_3)).trans hx310_3
             replace hx310_4 := (HB.out.cell (World.block_lt_of_cell? w _ hx310_4)).trans hx310_4
             replace hx310_5 := (HB.out.cell (World.block_lt_of_cell? w _ hx310_5)).trans hx310_5
             replace hx310_6 := (HB.out.cell (World.block_lt_of_cell? w _ hx310_6)).trans hx310_6
             replace p310 := eq_true p310
             replace q310 := eq_true q310
             go_wp2_with (first | ((with_reducible refine gate_callee (f := 95) rfl ?_); refine goesL_ (some 48) rfl rfl Try.func95 (by kernel_rfl) rfl #[.slice (some ad310) l0.length c0, .int .i64 (rd t306 x29_2), .int .i64 a2] rfl kz12_1 ?_; (with_reducible refine (config_toward.calls k2 _ _ l0 (rd t306 x29_2) a2 t311 _ ?side1 ?side2 A24.out).mono ?_); (case side1 => repeat (first | exact (Kd.C_below HR0.out HB.out) | (with_reducible refine Kd.C_alloc ?_ _) | (with_reducible refine Kd.C_drewN ?_ _) | (with_reducible refine Kd.C_drew ?_))); (case side2 => exact HC0.out); rintro e w25 ⟨v312, rfl, ho0, hb⟩; refine ⟨_, rfl, ?_⟩; have n0_ := Aside0.mk (Kd.R_elder' (by (with_reducible repeat (first | apply Kd.R_alloc | apply Kd.R_drewN | apply Kd.R_drew)); exact HO_27.out) (Kd.R_base ho0) hb); have n1_ := Aside0.mk (Kd.R_lower (Kd.R_new' ho0 (Kd.R_lt (by (with_reducible repeat (first | apply Kd.R_alloc | apply Kd.R_drewN | apply Kd.R_drew)); exact HO_27.out))) (below_size kz12_2)); have n2_ := Aside0.mk (below_step kz12_2 hb); clear HO_27; clear HB; have HO_27 := n0_; have HO313 := n1_; have HB := n2_; clear n0_ n1_ n2_; (try clear hb); (try clear hb2); (try clear hk); (try clear hi); (try clear ho0)))
             go_ret
             exact ⟨_, by first | rfl | (simp [errW_none, errW_some] <;> rfl) | (simp [*, errW_none, errW_some] <;> rfl), by (with_reducible repeat (first | apply Kd.R_alloc | apply Kd.R_drewN | apply Kd.R_drew)); exact Kd.R_mono HO313.out (fun _ hk => trivial), by repeat (first | (with_reducible first | exact HB.out | apply below_alloc | apply pw_below_drewN | apply below_drew1) | exact HB.out)⟩
            ·rw [if_neg c23] at H
             have c23b0 : decide (a2 < ((rd_T86 l0 (rd t306 x29_2)).f3)) = false := decide_eq_false c23
             clear c23
             have H' := Aside0.mk H
             clear H
             have p309 : 0 ≤ (x29_2 : Int) := of_decide_eq_true kz12_3
             have q309 : x29_2 < (t306.length : Int) := of_decide_eq_true kz12_3
             obtain ⟨ad309, e309, hx309_0⟩ := Kd.at_int (Kd.R_reads' HO_27.out).2.2 x29_2 p309 q309
             cases e309
             replace p309 := eq_true p309
             replace q309 := eq_true q309
             have p310 : 0 ≤ ((rd t306 x29_2) : Int) := of_decide_eq_true kz12_3
             have q310 : (rd t306 x29_2) < (l0.length : Int) := of_decide_eq_true kz12_3
             obtain ⟨ad310, e310, hx310_0, hx310_1, hx310_2, hx310_3, hx310_4, hx310_5, hx310_6⟩ := at_T86 HR0.out (rd t306 x29_2) p310 q310
             cases e310
             replace hx310_0 := (HB.out.cell (World.block_lt_of_cell? w _ hx310_0)).trans hx310_0
             replace hx310_1 := (HB.out.cell (World.block_lt_of_cell? w _ hx310_1)).trans hx310_1
             replace hx310_2 := (HB.out.cell (World.block_lt_of_cell? w _ hx310_2)).trans hx310_2
             replace hx310_3 := (HB.out.cell (World.block_lt_of_cell? w _ hx310_3)).trans hx310_3
             replace hx310_4 := (HB.out.cell (World.block_lt_of_cell? w _ hx310_4)).trans hx310_4
             replace hx310_5 := (HB.out.cell (World.block_lt_of_cell? w _ hx310_5)).trans hx310_5
             replace hx310_6 := (HB.out.cell (World.block_lt_of_cell? w _ hx310_6)).trans hx310_6
             replace p310 := eq_true p310
             replace q310 := eq_true q310
             go_wp2
             go_roundg k2
             case measure => have := HJ3.out; have := HK2.out; omega
             case rel => exact ⟨(wrap64 (x29_2 + 1)), kz12_6, H', ⟨by have := HJ3.out; have := HK2.out; omega⟩, ⟨by (with_reducible repeat (first | apply Kd.R_alloc | apply Kd.R_drewN | apply Kd.R_drew)); exact HO_27.out⟩, ⟨by repeat (first | (with_reducible first | exact HB.out | apply below_alloc | apply pw_below_drewN | apply below_drew1) | exact HB.out)⟩⟩
           ·rw [if_neg c22] at H
            exact absurd H (by simp)
          ·rw [if_neg c21] at H
           exact absurd H (by simp)
         ·rw [if_neg c20] at H
          have c20b0 : decide ((rd t306 x29_2) ≤ a2) = false := decide_eq_false c20
          clear c20
          have H' := Aside0.mk H
          clear H
          have p309 : 0 ≤ (x29_2 : Int) := of_decide_eq_true kz12_3
          have q309 : x29_2 < (t306.length : Int) := of_decide_eq_true kz12_3
          obtain ⟨ad309, e309, hx309_0⟩ := Kd.at_int (Kd.R_reads' HO_27.out).2.2 x29_2 p309 q309
          cases e309
          replace p309 := eq_true p309
          replace q309 := eq_true q309
          go_wp2
          go_roundg k2
          case measure => have := HJ3.out; have := HK2.out; omega
          case rel => exact ⟨(wrap64 (x29_2 + 1)), kz12_6, H', ⟨by have := HJ3.out; have := HK2.out; omega⟩, ⟨by (with_reducible repeat (first | apply Kd.R_alloc | apply Kd.R_drewN | apply Kd.R_drew)); exact HO_27.out⟩, ⟨by repeat (first | (with_reducible first | exact HB.out | apply below_alloc | apply pw_below_drewN | apply below_drew1) | exact HB.out)⟩⟩
        ·rw [if_neg c19] at H
         exact absurd H (by simp)
       ·rw [if_neg c18] at H
        exact absurd H (by simp)
      ·rw [if_neg c17] at H
       have c17b0 : decide (x29_2 < (t306.length : Int)) = false := decide_eq_false c17
       clear c17
       obtain rfl := Option.some.inj H
       go_wp2
       go_ret
       exact ⟨_, by first | rfl | (simp [errW_none, errW_some] <;> rfl) | (simp [*, errW_none, errW_some] <;> rfl), by first | exact Kd.R_nil _ _ _ _ _ | exact Kd.N_nil _ _ _ _ _ | exact Kd.V_nil _ _ _ _ _ | exact Kd.Q_nil _ _ _ _ _ | exact Kd.S_nil _ _ _ _ _, by repeat (first | (with_reducible first | exact HB.out | apply below_alloc | apply pw_below_drewN | apply below_drew1) | exact HB.out)⟩

/-! ### tumbrelref09_Within: function 96 -/
def tumbrelref09_Within.f (k : Nat) (l0 : List (S140)) (a1 : Int) (a2 : Int) : Option (Bool) := (tumbrelref09_Formed.f k l0).bind fun t314 => (if t314 = true then (if a1 = (-1) then (if a2 = (-1) then (some true) else ((tumbrelref09_state.f l0 a2).bind fun t315 => (if t315 = true then (if a1 = a2 then (some true) else (if a1 ≥ 0 then ((tumbrelref09_lies.f k l0 a1 a2).bind fun t316 => (some t316)) else (some false))) else (some false)))) else ((tumbrelref09_state.f l0 a1).bind fun t317 => (if t317 = true then (if a2 = (-1) then (some true) else ((tumbrelref09_state.f l0 a2).bind fun t318 => (if t318 = true then (if a1 = a2 then (some true) else (if a1 ≥ 0 then ((tumbrelref09_lies.f k l0 a1 a2).bind fun t319 => (some t319)) else (some false))) else (some false)))) else (some false)))) else (some false))
theorem tumbrelref09_Within.mono : ∀ a0 a1 a2 k, LeO (tumbrelref09_Within.f k a0 a1 a2) (tumbrelref09_Within.f (k + 1) a0 a1 a2) := by
 intro a0 a1 a2 k
 unfold tumbrelref09_Within.f
 repeat' first
   | (with_reducible exact tumbrelref09_Formed.mono _ _)
   | (with_reducible exact tumbrelref09_lies.mono _ _ _ _)
   | (with_reducible exact LeO.refl _)
   | (with_reducible exact LeO.none _)
   | (with_reducible refine LeO.ite ?_ ?_)
   | (with_reducible refine LeO.bind ?_ (fun _ => ?_))
   | exact tumbrelref09_Formed.mono _ _
   | exact tumbrelref09_lies.mono _ _ _ _
   | exact LeO.none _
   | refine LeO.ite ?_ ?_
   | refine LeO.bind ?_ (fun _ => ?_)
set_option maxHeartbeats 8000000 in
set_option maxRecDepth 100000 in
theorem tumbrelref09_Within.calls (k : Nat) (A0 : Option Addr) (c0 : Nat) (l0 : List (S140)) (a1 : Int) (a2 : Int) (r : Bool) (w : World) (hr0 : Kd.C k140 w A0 l0.length l0) (hc0 : l0.length ≤ c0) (h : tumbrelref09_Within.f k l0 a1 a2 = some r) :
  Calls Try.prog 96 #[.slice A0 l0.length c0, .int .i64 a1, .int .i64 a2] w fun e w' => e = .returned (.bool r) ∧ Drawn0 w w' := by
 have HR0 := Aside0.mk hr0
 have HC0 := Aside0.mk hc0
 clear hr0 hc0
 have H : ((tumbrelref09_Formed.f k l0).bind fun t314 => (if t314 = true then (if a1 = (-1) then (if a2 = (-1) then (some true) else ((tumbrelref09_state.f l0 a2).bind fun t315 => (if t315 = true then (if a1 = a2 then (some true) else (if a1 ≥ 0 then ((tumbrelref09_lies.f k l0 a1 a2).bind fun t316 => (some t316)) else (some false))) else (some false)))) else ((tumbrelref09_state.f l0 a1).bind fun t317 => (if t317 = true then (if a2 = (-1) then (some true) else ((tumbrelref09_state.f l0 a2).bind fun t318 => (if t318 = true then (if a1 = a2 then (some true) else (if a1 ≥ 0 then ((tumbrelref09_lies.f k l0 a1 a2).bind fun t319 => (some t319)) else (some false))) else (some false)))) else (some false)))) else (some false))) = some r := h
 clear h
 replace H := Option.bind_eq_some_iff.mp H
 obtain ⟨t314, A40, H⟩ := H
 replace H : (if t314 = true then (if a1 = (-1) then (if a2 = (-1) then (some true) else ((tumbrelref09_state.f l0 a2).bind fun t315 => (if t315 = true then (if a1 = a2 then (some true) else (if a1 ≥ 0 then ((tumbrelref09_lies.f k l0 a1 a2).bind fun t316 => (some t316)) else (some false))) else (some false)))) else ((tumbrelref09_state.f l0 a1).bind fun t317 => (if t317 = true then (if a2 = (-1) then (some true) else ((tumbrelref09_state.f l0 a2).bind fun t318 => (if t318 = true then (if a1 = a2 then (some true) else (if a1 ≥ 0 then ((tumbrelref09_lies.f k l0 a1 a2).bind fun t319 => (some t319)) else (some false))) else (some false)))) else (some false)))) else (some false)) = some r := H
 have A4 := Aside0.mk A40
 clear A40
 by_cases c5 : t314 = true
 ·subst c5
  have H1 : (if a1 = (-1) then (if a2 = (-1) then (some true) else ((tumbrelref09_state.f l0 a2).bind fun t315 => (if t315 = true then (if a1 = a2 then (some true) else (if a1 ≥ 0 then ((tumbrelref09_lies.f k l0 a1 a2).bind fun t316 => (some t316)) else (some false))) else (some false)))) else ((tumbrelref09_state.f l0 a1).bind fun t317 => (if t317 = true then (if a2 = (-1) then (some true) else ((tumbrelref09_state.f l0 a2).bind fun t318 => (if t318 = true then (if a1 = a2 then (some true) else (if a1 ≥ 0 then ((tumbrelref09_lies.f k l0 a1 a2).bind fun t319 => (some t319)) else (some false))) else (some false)))) else (some false)))) = some r := by rw [if_pos rfl] at H; exact H
  clear H
  have H := H1
  clear H1
  by_cases c6 : a1 = (-1)
  ·rw [if_pos c6] at H
   have c6b0 : (a1 == (-1)) = true := beq_iff_eq.mpr c6
   have c6b1 : (a1 != (-1)) = false := bne_eq_false_iff_eq.mpr c6
   clear c6
   by_cases c7 : a2 = (-1)
   ·rw [if_pos c7] at H
    have c7b0 : (a2 == (-1)) = true := beq_iff_eq.mpr c7
    have c7b1 : (a2 != (-1)) = false := bne_eq_false_iff_eq.mpr c7
    clear c7
    obtain rfl := Option.some.inj H
    go_enter Try.func96, Try.ntmps96
    go_wp2_with (first | ((with_reducible refine gate_callee (f := 86) rfl ?_); refine goesL_ (some 8) rfl rfl Try.func86 (by kernel_rfl) rfl #[.slice A0 l0.length c0] rfl kz12_1 ?_; (with_reducible refine (tumbrelref09_Formed.calls k _ _ l0 true _ ?side1 ?side2 A4.out).mono ?_); (case side1 => repeat (first | exact HR0.out | (with_reducible refine Kd.C_alloc ?_ _) | (with_reducible refine Kd.C_drewN ?_ _) | (with_reducible refine Kd.C_drew ?_))); (case side2 => exact HC0.out); rintro e w' ⟨rfl, ⟨nd, rfl⟩⟩; refine ⟨_, rfl, ?_⟩))
    go_ret
    exact ⟨by first | rfl | (simp; done) | (simp [*]; done), by repeat (first | exact Drawn0.refl _ | apply Drawn0.step)⟩
   ·rw [if_neg c7] at H
    have c7b0 : (a2 == (-1)) = false := beq_eq_false_iff_ne.mpr c7
    have c7b1 : (a2 != (-1)) = true := bne_iff_ne.mpr c7
    replace H := Option.bind_eq_some_iff.mp H
    obtain ⟨t315, A80, H⟩ := H
    replace H : (if t315 = true then (if a1 = a2 then (some true) else (if a1 ≥ 0 then ((tumbrelref09_lies.f k l0 a1 a2).bind fun t316 => (some t316)) else (some false))) else (some false)) = some r := H
    have A8 := Aside0.mk A80
    clear A80
    by_cases c9 : t315 = true
    ·subst c9
     have H1 : (if a1 = a2 then (some true) else (if a1 ≥ 0 then ((tumbrelref09_lies.f k l0 a1 a2).bind fun t316 => (some t316)) else (some false))) = some r := by rw [if_pos rfl] at H; exact H
     clear H
     have H := H1
     clear H1
     by_cases c10 : a1 = a2
     ·rw [if_pos c10] at H
      have c10b0 : (a1 == a2) = true := beq_iff_eq.mpr c10
      have c10b1 : (a1 != a2) = false := bne_eq_false_iff_eq.mpr c10
      clear c10
      obtain rfl := Option.some.inj H
      go_enter Try.func96, Try.ntmps96
      go_wp2_with (first | ((with_reducible refine gate_callee (f := 86) rfl ?_); refine goesL_ (some 8) rfl rfl Try.func86 (by kernel_rfl) rfl #[.slice A0 l0.length c0] rfl kz12_1 ?_; (with_reducible refine (tumbrelref09_Formed.calls k _ _ l0 true _ ?side1 ?side2 A4.out).mono ?_); (case side1 => repeat (first | exact HR0.out | (with_reducible refine Kd.C_alloc ?_ _) | (with_reducible refine Kd.C_drewN ?_ _) | (with_reducible refine Kd.C_drew ?_))); (case side2 => exact HC0.out); rintro e w' ⟨rfl, ⟨nd, rfl⟩⟩; refine ⟨_, rfl, ?_⟩) | (go_at_call 87; (with_reducible refine (tumbrelref09_state.calls _ _ l0 a2 true _ ?side1 ?side2 A8.out).mono ?_); (case side1 => repeat (first | exact HR0.out | (with_reducible refine Kd.C_alloc ?_ _) | (with_reducible refine Kd.C_drewN ?_ _) | (with_reducible refine Kd.C_drew ?_))); (case side2 => exact HC0.out); rintro e w' ⟨rfl, ⟨nd, rfl⟩⟩))
      go_ret
      exact ⟨by first | rfl | (simp; done) | (simp [*]; done), by repeat (first | exact Drawn0.refl _ | apply Drawn0.step)⟩
     ·rw [if_neg c10] at H
      have c10b0 : (a1 == a2) = false := beq_eq_false_iff_ne.mpr c10
      have c10b1 : (a1 != a2) = true := bne_iff_ne.mpr c10
      by_cases c11 : a1 ≥ 0
      ·rw [if_pos c11] at H
       have c11b0 : decide (0 ≤ a1) = true := decide_eq_true c11
       clear c11
       replace H := Option.bind_eq_some_iff.mp H
       obtain ⟨t316, A120, H⟩ := H
       replace H : (some t316) = some r := H
       have A12 := Aside0.mk A120
       clear A120
       obtain rfl := Option.some.inj H
       go_enter Try.func96, Try.ntmps96
       go_wp2_with (first | ((with_reducible refine gate_callee (f := 86) rfl ?_); refine goesL_ (some 8) rfl rfl Try.func86 (by kernel_rfl) rfl #[.slice A0 l0.length c0] rfl kz12_1 ?_; (with_reducible refine (tumbrelref09_Formed.calls k _ _ l0 true _ ?side1 ?side2 A4.out).mono ?_); (case side1 => repeat (first | exact HR0.out | (with_reducible refine Kd.C_alloc ?_ _) | (with_reducible refine Kd.C_drewN ?_ _) | (with_reducible refine Kd.C_drew ?_))); (case side2 => exact HC0.out); rintro e w' ⟨rfl, ⟨nd, rfl⟩⟩; refine ⟨_, rfl, ?_⟩) | (go_at_call 87; (with_reducible refine (tumbrelref09_state.calls _ _ l0 a2 true _ ?side1 ?side2 A8.out).mono ?_); (case side1 => repeat (first | exact HR0.out | (with_reducible refine Kd.C_alloc ?_ _) | (with_reducible refine Kd.C_drewN ?_ _) | (with_reducible refine Kd.C_drew ?_))); (case side2 => exact HC0.out); rintro e w' ⟨rfl, ⟨nd, rfl⟩⟩) | (go_at_call 113; (with_reducible refine (tumbrelref09_lies.calls k _ _ l0 a1 a2 t316 _ ?side1 ?side2 A12.out).mono ?_); (case side1 => repeat (first | exact HR0.out | (with_reducible refine Kd.C_alloc ?_ _) | (with_reducible refine Kd.C_drewN ?_ _) | (with_reducible refine Kd.C_drew ?_))); (case side2 => exact HC0.out); rintro e w' ⟨rfl, ⟨nd, rfl⟩⟩))
       go_ret
       exact ⟨by first | rfl | (simp; done) | (simp [*]; done), by repeat (first | exact Drawn0.refl _ | apply Drawn0.step)⟩
      ·rw [if_neg c11] at H
       have c11b0 : decide (0 ≤ a1) = false := decide_eq_false c11
       clear c11
       obtain rfl := Option.some.inj H
       go_enter Try.func96, Try.ntmps96
       go_wp2_with (first | ((with_reducible refine gate_callee (f := 86) rfl ?_); refine goesL_ (some 8) rfl rfl Try.func86 (by kernel_rfl) rfl #[.slice A0 l0.length c0] rfl kz12_1 ?_; (with_reducible refine (tumbrelref09_Formed.calls k _ _ l0 true _ ?side1 ?side2 A4.out).mono ?_); (case side1 => repeat (first | exact HR0.out | (with_reducible refine Kd.C_alloc ?_ _) | (with_reducible refine Kd.C_drewN ?_ _) | (with_reducible refine Kd.C_drew ?_))); (case side2 => exact HC0.out); rintro e w' ⟨rfl, ⟨nd, rfl⟩⟩; refine ⟨_, rfl, ?_⟩) | (go_at_call 87; (with_reducible refine (tumbrelref09_state.calls _ _ l0 a2 true _ ?side1 ?side2 A8.out).mono ?_); (case side1 => repeat (first | exact HR0.out | (with_reducible refine Kd.C_alloc ?_ _) | (with_reducible refine Kd.C_drewN ?_ _) | (with_reducible refine Kd.C_drew ?_))); (case side2 => exact HC0.out); rintro e w' ⟨rfl, ⟨nd, rfl⟩⟩))
       go_ret
       exact ⟨by first | rfl | (simp; done) | (simp [*]; done), by repeat (first | exact Drawn0.refl _ | apply Drawn0.step)⟩
    ·replace c9 := Bool.eq_false_iff.mpr c9
     subst c9
     have H1 : (some false) = some r := by rw [if_neg (show ¬ (false = true) by decide)] at H; exact H
     clear H
     have H := H1
     clear H1
     obtain rfl := Option.some.inj H
     go_enter Try.func96, Try.ntmps96
     go_wp2_with (first | ((with_reducible refine gate_callee (f := 86) rfl ?_); refine goesL_ (some 8) rfl rfl Try.func86 (by kernel_rfl) rfl #[.slice A0 l0.length c0] rfl kz12_1 ?_; (with_reducible refine (tumbrelref09_Formed.calls k _ _ l0 true _ ?side1 ?side2 A4.out).mono ?_); (case side1 => repeat (first | exact HR0.out | (with_reducible refine Kd.C_alloc ?_ _) | (with_reducible refine Kd.C_drewN ?_ _) | (with_reducible refine Kd.C_drew ?_))); (case side2 => exact HC0.out); rintro e w' ⟨rfl, ⟨nd, rfl⟩⟩; refine ⟨_, rfl, ?_⟩) | (go_at_call 87; (with_reducible refine (tumbrelref09_state.calls _ _ l0 a2 false _ ?side1 ?side2 A8.out).mono ?_); (case side1 => repeat (first | exact HR0.out | (with_reducible refine Kd.C_alloc ?_ _) | (with_reducible refine Kd.C_drewN ?_ _) | (with_reducible refine Kd.C_drew ?_))); (case side2 => exact HC0.out); rintro e w' ⟨rfl, ⟨nd, rfl⟩⟩))
     go_ret
     exact ⟨by first | rfl | (simp; done) | (simp [*]; done), by repeat (first | exact Drawn0.refl _ | apply Drawn0.step)⟩
  ·rw [if_neg c6] at H
   have c6b0 : (a1 == (-1)) = false := beq_eq_false_iff_ne.mpr c6
   have c6b1 : (a1 != (-1)) = true := bne_iff_ne.mpr c6
   replace H := Option.bind_eq_some_iff.mp H
   obtain ⟨t317, A130, H⟩ := H
   replace H : (if t317 = true then (if a2 = (-1) then (some true) else ((tumbrelref09_state.f l0 a2).bind fun t318 => (if t318 = true then (if a1 = a2 then (some true) else (if a1 ≥ 0 then ((tumbrelref09_lies.f k l0 a1 a2).bind fun t319 => (some t319)) else (some false))) else (some false)))) else (some false)) = some r := H
   have A13 := Aside0.mk A130
   clear A130
   by_cases c14 : t317 = true
   ·subst c14
    have H1 : (if a2 = (-1) then (some true) else ((tumbrelref09_state.f l0 a2).bind fun t318 => (if t318 = true then (if a1 = a2 then (some true) else (if a1 ≥ 0 then ((tumbrelref09_lies.f k l0 a1 a2).bind fun t319 => (some t319)) else (some false))) else (some false)))) = some r := by rw [if_pos rfl] at H; exact H
    clear H
    have H := H1
    clear H1
    by_cases c15 : a2 = (-1)
    ·rw [if_pos c15] at H
     have c15b0 : (a2 == (-1)) = true := beq_iff_eq.mpr c15
     have c15b1 : (a2 != (-1)) = false := bne_eq_false_iff_eq.mpr c15
     clear c15
     obtain rfl := Option.some.inj H
     go_enter Try.func96, Try.ntmps96
     go_wp2_with (first | ((with_reducible refine gate_callee (f := 86) rfl ?_); refine goesL_ (some 8) rfl rfl Try.func86 (by kernel_rfl) rfl #[.slice A0 l0.length c0] rfl kz12_1 ?_; (with_reducible refine (tumbrelref09_Formed.calls k _ _ l0 true _ ?side1 ?side2 A4.out).mono ?_); (case side1 => repeat (first | exact HR0.out | (with_reducible refine Kd.C_alloc ?_ _) | (with_reducible refine Kd.C_drewN ?_ _) | (with_reducible refine Kd.C_drew ?_))); (case side2 => exact HC0.out); rintro e w' ⟨rfl, ⟨nd, rfl⟩⟩; refine ⟨_, rfl, ?_⟩) | (go_at_call 87; (with_reducible refine (tumbrelref09_state.calls _ _ l0 a1 true _ ?side1 ?side2 A13.out).mono ?_); (case side1 => repeat (first | exact HR0.out | (with_reducible refine Kd.C_alloc ?_ _) | (with_reducible refine Kd.C_drewN ?_ _) | (with_reducible refine Kd.C_drew ?_))); (case side2 => exact HC0.out); rintro e w' ⟨rfl, ⟨nd, rfl⟩⟩))
     go_ret
     exact ⟨by first | rfl | (simp; done) | (simp [*]; done), by repeat (first | exact Drawn0.refl _ | apply Drawn0.step)⟩
    ·rw [if_neg c15] at H
     have c15b0 : (a2 == (-1)) = false := beq_eq_false_iff_ne.mpr c15
     have c15b1 : (a2 != (-1)) = true := bne_iff_ne.mpr c15
     replace H := Option.bind_eq_some_iff.mp H
     obtain ⟨t318, A160, H⟩ := H
     replace H : (if t318 = true then (if a1 = a2 then (some true) else (if a1 ≥ 0 then ((tumbrelref09_lies.f k l0 a1 a2).bind fun t319 => (some t319)) else (some false))) else (some false)) = some r := H
     have A16 := Aside0.mk A160
     clear A160
     by_cases c17 : t318 = true
     ·subst c17
      have H1 : (if a1 = a2 then (some true) else (if a1 ≥ 0 then ((tumbrelref09_lies.f k l0 a1 a2).bind fun t319 => (some t319)) else (some false))) = some r := by rw [if_pos rfl] at H; exact H
      clear H
      have H := H1
      clear H1
      by_cases c18 : a1 = a2
      ·rw [if_pos c18] at H
       have c18b0 : (a1 == a2) = true := beq_iff_eq.mpr c18
       have c18b1 : (a1 != a2) = false := bne_eq_false_iff_eq.mpr c18
       clear c18
       obtain rfl := Option.some.inj H
       go_enter Try.func96, Try.ntmps96
       go_wp2_with (first | ((with_reducible refine gate_callee (f := 86) rfl ?_); refine goesL_ (some 8) rfl rfl Try.func86 (by kernel_rfl) rfl #[.slice A0 l0.length c0] rfl kz12_1 ?_; (with_reducible refine (tumbrelref09_Formed.calls k _ _ l0 true _ ?side1 ?side2 A4.out).mono ?_); (case side1 => repeat (first | exact HR0.out | (with_reducible refine Kd.C_alloc ?_ _) | (with_reducible refine Kd.C_drewN ?_ _) | (with_reducible refine Kd.C_drew ?_))); (case side2 => exact HC0.out); rintro e w' ⟨rfl, ⟨nd, rfl⟩⟩; refine ⟨_, rfl, ?_⟩) | (go_at_call 87; (with_reducible refine (tumbrelref09_state.calls _ _ l0 a1 true _ ?side1 ?side2 A13.out).mono ?_); (case side1 => repeat (first | exact HR0.out | (with_reducible refine Kd.C_alloc ?_ _) | (with_reducible refine Kd.C_drewN ?_ _) | (with_reducible refine Kd.C_drew ?_))); (case side2 => exact HC0.out); rintro e w' ⟨rfl, ⟨nd, rfl⟩⟩) | (go_at_call 87; (with_reducible refine (tumbrelref09_state.calls _ _ l0 a2 true _ ?side1 ?side2 A16.out).mono ?_); (case side1 => repeat (first | exact HR0.out | (with_reducible refine Kd.C_alloc ?_ _) | (with_reducible refine Kd.C_drewN ?_ _) | (with_reducible refine Kd.C_drew ?_))); (case side2 => exact HC0.out); rintro e w' ⟨rfl, ⟨nd, rfl⟩⟩))
       go_ret
       exact ⟨by first | rfl | (simp; done) | (simp [*]; done), by repeat (first | exact Drawn0.refl _ | apply Drawn0.step)⟩
      ·rw [if_neg c18] at H
       have c18b0 : (a1 == a2) = false := beq_eq_false_iff_ne.mpr c18
       have c18b1 : (a1 != a2) = true := bne_iff_ne.mpr c18
       by_cases c19 : a1 ≥ 0
       ·rw [if_pos c19] at H
        have c19b0 : decide (0 ≤ a1) = true := decide_eq_true c19
        clear c19
        replace H := Option.bind_eq_some_iff.mp H
        obtain ⟨t319, A200, H⟩ := H
        replace H : (some t319) = some r := H
        have A20 := Aside0.mk A200
        clear A200
        obtain rfl := Option.some.inj H
        go_enter Try.func96, Try.ntmps96
        go_wp2_with (first | ((with_reducible refine gate_callee (f := 86) rfl ?_); refine goesL_ (some 8) rfl rfl Try.func86 (by kernel_rfl) rfl #[.slice A0 l0.length c0] rfl kz12_1 ?_; (with_reducible refine (tumbrelref09_Formed.calls k _ _ l0 true _ ?side1 ?side2 A4.out).mono ?_); (case side1 => repeat (first | exact HR0.out | (with_reducible refine Kd.C_alloc ?_ _) | (with_reducible refine Kd.C_drewN ?_ _) | (with_reducible refine Kd.C_drew ?_))); (case side2 => exact HC0.out); rintro e w' ⟨rfl, ⟨nd, rfl⟩⟩; refine ⟨_, rfl, ?_⟩) | (go_at_call 87; (with_reducible refine (tumbrelref09_state.calls _ _ l0 a1 true _ ?side1 ?side2 A13.out).mono ?_); (case side1 => repeat (first | exact HR0.out | (with_reducible refine Kd.C_alloc ?_ _) | (with_reducible refine Kd.C_drewN ?_ _) | (with_reducible refine Kd.C_drew ?_))); (case side2 => exact HC0.out); rintro e w' ⟨rfl, ⟨nd, rfl⟩⟩) | (go_at_call 87; (with_reducible refine (tumbrelref09_state.calls _ _ l0 a2 true _ ?side1 ?side2 A16.out).mono ?_); (case side1 => repeat (first | exact HR0.out | (with_reducible refine Kd.C_alloc ?_ _) | (with_reducible refine Kd.C_drewN ?_ _) | (with_reducible refine Kd.C_drew ?_))); (case side2 => exact HC0.out); rintro e w' ⟨rfl, ⟨nd, rfl⟩⟩) | (go_at_call 113; (with_reducible refine (tumbrelref09_lies.calls k _ _ l0 a1 a2 t319 _ ?side1 ?side2 A20.out).mono ?_); (case side1 => repeat (first | exact HR0.out | (with_reducible refine Kd.C_alloc ?_ _) | (with_reducible refine Kd.C_drewN ?_ _) | (with_reducible refine Kd.C_drew ?_))); (case side2 => exact HC0.out); rintro e w' ⟨rfl, ⟨nd, rfl⟩⟩))
        go_ret
        exact ⟨by first | rfl | (simp; done) | (simp [*]; done), by repeat (first | exact Drawn0.refl _ | apply Drawn0.step)⟩
       ·rw [if_neg c19] at H
        have c19b0 : decide (0 ≤ a1) = false := decide_eq_false c19
        clear c19
        obtain rfl := Option.some.inj H
        go_enter Try.func96, Try.ntmps96
        go_wp2_with (first | ((with_reducible refine gate_callee (f := 86) rfl ?_); refine goesL_ (some 8) rfl rfl Try.func86 (by kernel_rfl) rfl #[.slice A0 l0.length c0] rfl kz12_1 ?_; (with_reducible refine (tumbrelref09_Formed.calls k _ _ l0 true _ ?side1 ?side2 A4.out).mono ?_); (case side1 => repeat (first | exact HR0.out | (with_reducible refine Kd.C_alloc ?_ _) | (with_reducible refine Kd.C_drewN ?_ _) | (with_reducible refine Kd.C_drew ?_))); (case side2 => exact HC0.out); rintro e w' ⟨rfl, ⟨nd, rfl⟩⟩; refine ⟨_, rfl, ?_⟩) | (go_at_call 87; (with_reducible refine (tumbrelref09_state.calls _ _ l0 a1 true _ ?side1 ?side2 A13.out).mono ?_); (case side1 => repeat (first | exact HR0.out | (with_reducible refine Kd.C_alloc ?_ _) | (with_reducible refine Kd.C_drewN ?_ _) | (with_reducible refine Kd.C_drew ?_))); (case side2 => exact HC0.out); rintro e w' ⟨rfl, ⟨nd, rfl⟩⟩) | (go_at_call 87; (with_reducible refine (tumbrelref09_state.calls _ _ l0 a2 true _ ?side1 ?side2 A16.out).mono ?_); (case side1 => repeat (first | exact HR0.out | (with_reducible refine Kd.C_alloc ?_ _) | (with_reducible refine Kd.C_drewN ?_ _) | (with_reducible refine Kd.C_drew ?_))); (case side2 => exact HC0.out); rintro e w' ⟨rfl, ⟨nd, rfl⟩⟩))
        go_ret
        exact ⟨by first | rfl | (simp; done) | (simp [*]; done), by repeat (first | exact Drawn0.refl _ | apply Drawn0.step)⟩
     ·replace c17 := Bool.eq_false_iff.mpr c17
      subst c17
      have H1 : (some false) = some r := by rw [if_neg (show ¬ (false = true) by decide)] at H; exact H
      clear H
      have H := H1
      clear H1
      obtain rfl := Option.some.inj H
      go_enter Try.func96, Try.ntmps96
      go_wp2_with (first | ((with_reducible refine gate_callee (f := 86) rfl ?_); refine goesL_ (some 8) rfl rfl Try.func86 (by kernel_rfl) rfl #[.slice A0 l0.length c0] rfl kz12_1 ?_; (with_reducible refine (tumbrelref09_Formed.calls k _ _ l0 true _ ?side1 ?side2 A4.out).mono ?_); (case side1 => repeat (first | exact HR0.out | (with_reducible refine Kd.C_alloc ?_ _) | (with_reducible refine Kd.C_drewN ?_ _) | (with_reducible refine Kd.C_drew ?_))); (case side2 => exact HC0.out); rintro e w' ⟨rfl, ⟨nd, rfl⟩⟩; refine ⟨_, rfl, ?_⟩) | (go_at_call 87; (with_reducible refine (tumbrelref09_state.calls _ _ l0 a1 true _ ?side1 ?side2 A13.out).mono ?_); (case side1 => repeat (first | exact HR0.out | (with_reducible refine Kd.C_alloc ?_ _) | (with_reducible refine Kd.C_drewN ?_ _) | (with_reducible refine Kd.C_drew ?_))); (case side2 => exact HC0.out); rintro e w' ⟨rfl, ⟨nd, rfl⟩⟩) | (go_at_call 87; (with_reducible refine (tumbrelref09_state.calls _ _ l0 a2 false _ ?side1 ?side2 A16.out).mono ?_); (case side1 => repeat (first | exact HR0.out | (with_reducible refine Kd.C_alloc ?_ _) | (with_reducible refine Kd.C_drewN ?_ _) | (with_reducible refine Kd.C_drew ?_))); (case side2 => exact HC0.out); rintro e w' ⟨rfl, ⟨nd, rfl⟩⟩))
      go_ret
      exact ⟨by first | rfl | (simp; done) | (simp [*]; done), by repeat (first | exact Drawn0.refl _ | apply Drawn0.step)⟩
   ·replace c14 := Bool.eq_false_iff.mpr c14
    subst c14
    have H1 : (some false) = some r := by rw [if_neg (show ¬ (false = true) by decide)] at H; exact H
    clear H
    have H := H1
    clear H1
    obtain rfl := Option.some.inj H
    go_enter Try.func96, Try.ntmps96
    go_wp2_with (first | ((with_reducible refine gate_callee (f := 86) rfl ?_); refine goesL_ (some 8) rfl rfl Try.func86 (by kernel_rfl) rfl #[.slice A0 l0.length c0] rfl kz12_1 ?_; (with_reducible refine (tumbrelref09_Formed.calls k _ _ l0 true _ ?side1 ?side2 A4.out).mono ?_); (case side1 => repeat (first | exact HR0.out | (with_reducible refine Kd.C_alloc ?_ _) | (with_reducible refine Kd.C_drewN ?_ _) | (with_reducible refine Kd.C_drew ?_))); (case side2 => exact HC0.out); rintro e w' ⟨rfl, ⟨nd, rfl⟩⟩; refine ⟨_, rfl, ?_⟩) | (go_at_call 87; (with_reducible refine (tumbrelref09_state.calls _ _ l0 a1 false _ ?side1 ?side2 A13.out).mono ?_); (case side1 => repeat (first | exact HR0.out | (with_reducible refine Kd.C_alloc ?_ _) | (with_reducible refine Kd.C_drewN ?_ _) | (with_reducible refine Kd.C_drew ?_))); (case side2 => exact HC0.out); rintro e w' ⟨rfl, ⟨nd, rfl⟩⟩))
    go_ret
    exact ⟨by first | rfl | (simp; done) | (simp [*]; done), by repeat (first | exact Drawn0.refl _ | apply Drawn0.step)⟩
 ·replace c5 := Bool.eq_false_iff.mpr c5
  subst c5
  have H1 : (some false) = some r := by rw [if_neg (show ¬ (false = true) by decide)] at H; exact H
  clear H
  have H := H1
  clear H1
  obtain rfl := Option.some.inj H
  go_enter Try.func96, Try.ntmps96
  go_wp2_with (first | ((with_reducible refine gate_callee (f := 86) rfl ?_); refine goesL_ (some 8) rfl rfl Try.func86 (by kernel_rfl) rfl #[.slice A0 l0.length c0] rfl kz12_1 ?_; (with_reducible refine (tumbrelref09_Formed.calls k _ _ l0 false _ ?side1 ?side2 A4.out).mono ?_); (case side1 => repeat (first | exact HR0.out | (with_reducible refine Kd.C_alloc ?_ _) | (with_reducible refine Kd.C_drewN ?_ _) | (with_reducible refine Kd.C_drew ?_))); (case side2 => exact HC0.out); rintro e w' ⟨rfl, ⟨nd, rfl⟩⟩; refine ⟨_, rfl, ?_⟩))
  go_ret
  exact ⟨by first | rfl | (simp; done) | (simp [*]; done), by repeat (first | exact Drawn0.refl _ | apply Drawn0.step)⟩

/-! ### tumbrelref09_toward: function 97 -/
mutual
def tumbrelref09_toward.l0 : Nat → List (S140) → Int → Int → List Int → List Int → Int → Int → Option (List Int)
 | 0, _, _, _, _, _, _, _ => none
 | k + 1, x0, x1, x2, x7, x8, x22, x23 => if x23 < x22 then (if 0 ≤ x23 then (if x23 < (x8.length : Int) then ((tumbrelref09_Within.f k x0 x2 (rd x8 x23)).bind fun t330 => (if t330 = true then ((tumbrelref09_toward.f k x0 (rd x8 x23) x2).bind fun t332 => (if x7.length + t332.length < 17592186044416 then (tumbrelref09_toward.l0 k x0 x1 x2 (x7 ++ t332) x8 x22 (wrap64 (x23 + 1))) else (none))) else (if 0 ≤ x1 then (if x1 < (x0.length : Int) then (if (rd_T140 x0 x1).f4 = true then ((tumbrelref09_byDefault.f k x0 (rd x8 x23)).bind fun t340 => (if x7.length + t340.length < 17592186044416 then (tumbrelref09_toward.l0 k x0 x1 x2 (x7 ++ t340) x8 x22 (wrap64 (x23 + 1))) else (none))) else (tumbrelref09_toward.l0 k x0 x1 x2 x7 x8 x22 (wrap64 (x23 + 1)))) else (none)) else (none)))) else (none)) else (none)) else (some x7)
def tumbrelref09_toward.f : Nat → List (S140) → Int → Int → Option (List Int)
 | 0, _, _, _ => none
 | k + 1, l0, a1, a2 => if a1 = a2 then ((tumbrelref09_byDefault.f k l0 a2).bind fun t320 => (some t320)) else ((tumbrelref09_Inner.f k l0 a1).bind fun t326 => (tumbrelref09_toward.l0 k l0 a1 a2 (([a1] : List Int)) t326 (t326.length : Int) 0))
end
theorem tumbrelref09_toward.mono_l : ∀ k, (∀ y0 y1 y2, LeO (tumbrelref09_toward.f k y0 y1 y2) (tumbrelref09_toward.f (k + 1) y0 y1 y2)) ∧ (∀ y0 y1 y2 y3 y4 y5 y6, LeO (tumbrelref09_toward.l0 k y0 y1 y2 y3 y4 y5 y6) (tumbrelref09_toward.l0 (k + 1) y0 y1 y2 y3 y4 y5 y6))
 | 0 => ⟨fun _ _ _ r h => by simp [tumbrelref09_toward.f] at h, fun _ _ _ _ _ _ _ r h => by simp [tumbrelref09_toward.l0] at h⟩
 | k + 1 => by
  obtain ⟨ih0, ih1⟩ := tumbrelref09_toward.mono_l k
  refine ⟨?_, ?_⟩
  ·intro y0 y1 y2
   unfold tumbrelref09_toward.f
   repeat' first
   | (with_reducible exact ih0 _ _ _)
   | (with_reducible exact ih1 _ _ _ _ _ _ _)
   | (with_reducible exact tumbrelref09_Inner.mono _ _ _)
   | (with_reducible exact tumbrelref09_Within.mono _ _ _ _)
   | (with_reducible exact tumbrelref09_byDefault.mono _ _ _)
   | (with_reducible exact LeO.refl _)
   | (with_reducible exact LeO.none _)
   | (with_reducible refine LeO.ite ?_ ?_)
   | (with_reducible refine LeO.bind ?_ (fun _ => ?_))
   | exact ih0 _ _ _
   | exact ih1 _ _ _ _ _ _ _
   | exact tumbrelref09_Inner.mono _ _ _
   | exact tumbrelref09_Within.mono _ _ _ _
   | exact tumbrelref09_byDefault.mono _ _ _
   | exact LeO.none _
   | refine LeO.ite ?_ ?_
   | refine LeO.bind ?_ (fun _ => ?_)
  ·intro y0 y1 y2 y3 y4 y5 y6
   unfold tumbrelref09_toward.l0
   repeat' first
   | (with_reducible exact ih0 _ _ _)
   | (with_reducible exact ih1 _ _ _ _ _ _ _)
   | (with_reducible exact tumbrelref09_Inner.mono _ _ _)
   | (with_reducible exact tumbrelref09_Within.mono _ _ _ _)
   | (with_reducible exact tumbrelref09_byDefault.mono _ _ _)
   | (with_reducible exact LeO.refl _)
   | (with_reducible exact LeO.none _)
   | (with_reducible refine LeO.ite ?_ ?_)
   | (with_reducible refine LeO.bind ?_ (fun _ => ?_))
   | exact ih0 _ _ _
   | exact ih1 _ _ _ _ _ _ _
   | exact tumbrelref09_Inner.mono _ _ _
   | exact tumbrelref09_Within.mono _ _ _ _
   | exact tumbrelref09_byDefault.mono _ _ _
   | exact LeO.none _
   | refine LeO.ite ?_ ?_
   | refine LeO.bind ?_ (fun _ => ?_)
theorem tumbrelref09_toward.mono : ∀ a0 a1 a2 k, LeO (tumbrelref09_toward.f k a0 a1 a2) (tumbrelref09_toward.f (k + 1) a0 a1 a2) := by
 intro a0 a1 a2 k
 obtain ⟨ih0, ih1⟩ := tumbrelref09_toward.mono_l k
 exact ih0 a0 a1 a2
set_option maxHeartbeats 8000000 in
set_option maxRecDepth 100000 in
theorem tumbrelref09_toward.calls (k : Nat) : ∀ (A0 : Option Addr) (c0 : Nat) (l0 : List (S140)) (a1 : Int) (a2 : Int) (r : List Int) (w : World) (hr0 : Kd.C k140 w A0 l0.length l0) (hc0 : l0.length ≤ c0) (h : tumbrelref09_toward.f k l0 a1 a2 = some r),
  Calls Try.prog 97 #[.slice A0 l0.length c0, .int .i64 a1, .int .i64 a2] w fun e w' => ∃ v0_ : Value, e = .returned (v0_) ∧ Kd.R (Kd.int .i64) 3 w' w.heap.size (fun _ => True) v0_ r ∧ Below w.heap.size w w' := by
 induction k using Nat.strongRecOn with
 | _ k ih =>
 intro A0 c0 l0 a1 a2 r w hr0 hc0 h
 cases k with
 | zero => exact absurd h (by simp [tumbrelref09_toward.f])
 | succ k =>
 simp only [tumbrelref09_toward.f] at h
 have HR0 := Aside0.mk hr0
 have HC0 := Aside0.mk hc0
 clear hr0 hc0
 have HB := Aside0.mk (Below.refl w.heap.size w)
 have H : (if a1 = a2 then ((tumbrelref09_byDefault.f k l0 a2).bind fun t320 => (some t320)) else ((tumbrelref09_Inner.f k l0 a1).bind fun t326 => (tumbrelref09_toward.l0 k l0 a1 a2 (([a1] : List Int)) t326 (t326.length : Int) 0))) = some r := h
 clear h
 by_cases c4 : a1 = a2
 ·rw [if_pos c4] at H
  have c4b0 : (a1 == a2) = true := beq_iff_eq.mpr c4
  have c4b1 : (a1 != a2) = false := bne_eq_false_iff_eq.mpr c4
  clear c4
  replace H := Option.bind_eq_some_iff.mp H
  obtain ⟨t320, A50, H⟩ := H
  replace H : (some t320) = some r := H
  have A5 := Aside0.mk A50
  clear A50
  obtain rfl := Option.some.inj H
  go_enter Try.func97, Try.ntmps97
  go_wp2_with (first | ((with_reducible refine gate_callee (f := 94) rfl ?_); refine goesL_ (some 15) rfl rfl Try.func94 (by kernel_rfl) rfl #[.slice A0 l0.length c0, .int .i64 a2] rfl kz12_1 ?_; (with_reducible refine (tumbrelref09_byDefault.calls k _ _ l0 a2 t320 _ ?side1 ?side2 A5.out).mono ?_); (case side1 => repeat (first | exact HR0.out | (with_reducible refine Kd.C_alloc ?_ _) | (with_reducible refine Kd.C_drewN ?_ _) | (with_reducible refine Kd.C_drew ?_))); (case side2 => exact HC0.out); rintro e w6 ⟨v321, rfl, ho0, hb⟩; refine ⟨_, rfl, ?_⟩; have n0_ := Aside0.mk (Kd.R_lower ho0 (below_size kz12_2)); have n1_ := Aside0.mk (below_step kz12_2 hb); clear HB; have HO322 := n0_; have HB := n1_; clear n0_ n1_; (try clear hb); (try clear hb2); (try clear hk); (try clear hi); (try clear ho0)))
  go_ret
  exact ⟨_, by first | rfl | (simp [errW_none, errW_some] <;> rfl) | (simp [*, errW_none, errW_some] <;> rfl), by (with_reducible repeat (first | apply Kd.R_alloc | apply Kd.R_drewN | apply Kd.R_drew)); exact HO322.out, by repeat (first | (with_reducible first | exact HB.out | apply below_alloc | apply pw_below_drewN | apply below_drew1) | exact HB.out)⟩
 ·rw [if_neg c4] at H
  have c4b0 : (a1 == a2) = false := beq_eq_false_iff_ne.mpr c4
  have c4b1 : (a1 != a2) = true := bne_iff_ne.mpr c4
  obtain ⟨y323, hy323⟩ : ∃ y_ : List Int, y_ = (([a1] : List Int)) := ⟨_, rfl⟩
  replace H : ((tumbrelref09_Inner.f k l0 a1).bind fun t326 => (tumbrelref09_toward.l0 k l0 a1 a2 y323 t326 (t326.length : Int) 0)) = some r := by first | (rw [hy323]; with_reducible exact H) | (have H2_ := (Option.bind_some _ _).symm.trans H; rw [hy323]; with_reducible exact H2_) | (have H2_ := (Option.bind_some _ _).symm.trans H; with_reducible exact H2_) | with_reducible exact H | (rw [hy323]; exact H) | exact H
  have Ny323 := Aside0.mk hy323
  clear hy323
  replace H := Option.bind_eq_some_iff.mp H
  obtain ⟨t326, A70, H⟩ := H
  replace H : (tumbrelref09_toward.l0 k l0 a1 a2 y323 t326 (t326.length : Int) 0) = some r := H
  have A7 := Aside0.mk A70
  clear A70
  have H' := Aside0.mk H
  clear H
  go_enter Try.func97, Try.ntmps97
  go_wp2_with (first | ((with_reducible refine gate_dst (N := 17) rfl ?_); refine Kd.R_lit (Kd.int .i64) _ 3 ?hg (N := 17) ?hd (xs := ([a1] : List Int)) (inner := [.int .i64 a1]) (ok := fun _ => True) (okp := fun _ => True) ?hr ?hp (fun _ hk => hk) trivial (Below.refl _ _) (Nat.le_refl _) (by simp) ?_; (case hd => rfl); (case hg => rfl); (case hr => first | (go_simp; done) | (go_simp; rfl)); (case hp => exact (Reps.one (show Kd.M (Kd.int .i64) _ _ _ a1 [.int .i64 a1] from rfl) (Reps.none _ _))); intro v324 w8 ho9 hb hg_ hnew_; clear hg_ hnew_; (first | rw [← Ny323.out] at ho9 | (simp only [Int.reduceToNat] at ho9; rw [← Ny323.out] at ho9)); have n0_ := Aside0.mk (Kd.R_lower ho9 (below_size kz12_2)); have n1_ := Aside0.mk (below_step kz12_2 hb); clear HB; have HO325 := n0_; have HB := n1_; clear n0_ n1_; clear hb ho9) | ((with_reducible refine gate_callee (f := 89) rfl ?_); refine goesL_ (some 20) rfl rfl Try.func89 (by kernel_rfl) rfl #[.slice A0 l0.length c0, .int .i64 a1] rfl kz12_1 ?_; (with_reducible refine (tumbrelref09_Inner.calls k _ _ l0 a1 t326 _ ?side1 ?side2 A7.out).mono ?_); (case side1 => repeat (first | exact (Kd.C_below HR0.out HB.out) | (with_reducible refine Kd.C_alloc ?_ _) | (with_reducible refine Kd.C_drewN ?_ _) | (with_reducible refine Kd.C_drew ?_))); (case side2 => exact HC0.out); rintro e w10 ⟨v327, rfl, ho0, hb⟩; refine ⟨_, rfl, ?_⟩; have n0_ := Aside0.mk (Kd.R_elder' (by (with_reducible repeat (first | apply Kd.R_alloc | apply Kd.R_drewN | apply Kd.R_drew)); exact HO325.out) (Kd.R_base ho0) hb); have n1_ := Aside0.mk (Kd.R_lower (Kd.R_new' ho0 (Kd.R_lt (by (with_reducible repeat (first | apply Kd.R_alloc | apply Kd.R_drewN | apply Kd.R_drew)); exact HO325.out))) (below_size kz12_2)); have n2_ := Aside0.mk (below_step kz12_2 hb); clear HO325; clear HB; have HO325 := n0_; have HO328 := n1_; have HB := n2_; clear n0_ n1_ n2_; (try clear hb); (try clear hb2); (try clear hk); (try clear hi); (try clear ho0); obtain ⟨Ao11, co11, eo11⟩ := Kd.R_slice HO328.out; subst eo11))
  go_loopg [7, 23] k (fun kq v7 v23 w' => ∃ (x7_1 : List Int) (x23_1 : Int), v23 = .int .i64 x23_1 ∧ Aside0 (tumbrelref09_toward.l0 kq l0 a1 a2 x7_1 t326 (t326.length : Int) x23_1 = some r) ∧ Aside0 (kq ≤ k) ∧ Aside0 (Kd.R (Kd.int .i64) 3 w' w.heap.size (fun k_ => some k_ ≠ ((.slice Ao11 t326.length co11) : Value).ownBlock) v7 x7_1) ∧ Aside0 (Kd.R (Kd.int .i64) 3 w' w.heap.size (fun k_ => some k_ ≠ (v7 : Value).ownBlock) (.slice Ao11 t326.length co11) t326) ∧ Aside0 (Below w.heap.size w w'))
  case atStart => exact ⟨(y323), (0), kz12_6, H', ⟨Nat.le_refl _⟩, ⟨by (with_reducible repeat (first | apply Kd.R_alloc | apply Kd.R_drewN | apply Kd.R_drew)); exact Kd.R_mono HO325.out (fun _ hk => hk.2)⟩, ⟨by (with_reducible repeat (first | apply Kd.R_alloc | apply Kd.R_drewN | apply Kd.R_drew)); exact Kd.R_mono HO328.out (fun _ hk => hk.2)⟩, ⟨by repeat (first | (with_reducible first | exact HB.out | apply below_alloc | apply pw_below_drewN | apply below_drew1) | exact HB.out)⟩⟩
  case round =>
   clear H'
   try clear p2
   try clear c4
   try clear c4b0
   try clear c4b1
   try clear c8
   try clear c9
   obtain ⟨x7_1, x23_1, rfl, HA, HK1, HO_7, HO_8, HB⟩ := hrel
   cases gk with
   | zero => exact absurd HA.out (by simp [tumbrelref09_toward.l0])
   | succ k1 =>
    have H := HA.out
    clear HA
    simp only [tumbrelref09_toward.l0] at H
    by_cases c12 : x23_1 < (t326.length : Int)
    ·rw [if_pos c12] at H
     have c12b0 : decide (x23_1 < (t326.length : Int)) = true := decide_eq_true c12
     clear c12
     by_cases c13 : 0 ≤ x23_1
     ·rw [if_pos c13] at H
      have c13b0 : decide (0 ≤ x23_1) = true := decide_eq_true c13
      clear c13
      by_cases c14 : x23_1 < (t326.length : Int)
      ·rw [if_pos c14] at H
       have c14b0 : decide (x23_1 < (t326.length : Int)) = true := decide_eq_true c14
       clear c14
       replace H := Option.bind_eq_some_iff.mp H
       obtain ⟨t330, A150, H⟩ := H
       replace H : (if t330 = true then ((tumbrelref09_toward.f k1 l0 (rd t326 x23_1) a2).bind fun t332 => (if x7_1.length + t332.length < 17592186044416 then (tumbrelref09_toward.l0 k1 l0 a1 a2 (x7_1 ++ t332) t326 (t326.length : Int) (wrap64 (x23_1 + 1))) else (none))) else (if 0 ≤ a1 then (if a1 < (l0.length : Int) then (if (rd_T140 l0 a1).f4 = true then ((tumbrelref09_byDefault.f k1 l0 (rd t326 x23_1)).bind fun t340 => (if x7_1.length + t340.length < 17592186044416 then (tumbrelref09_toward.l0 k1 l0 a1 a2 (x7_1 ++ t340) t326 (t326.length : Int) (wrap64 (x23_1 + 1))) else (none))) else (tumbrelref09_toward.l0 k1 l0 a1 a2 x7_1 t326 (t326.length : Int) (wrap64 (x23_1 + 1)))) else (none)) else (none))) = some r := H
       have A15 := Aside0.mk A150
       clear A150
       by_cases c16 : t330 = true
       ·subst c16
        have H1 : ((tumbrelref09_toward.f k1 l0 (rd t326 x23_1) a2).bind fun t332 => (if x7_1.length + t332.length < 17592186044416 then (tumbrelref09_toward.l0 k1 l0 a1 a2 (x7_1 ++ t332) t326 (t326.length : Int) (wrap64 (x23_1 + 1))) else (none))) = some r := by rw [if_pos rfl] at H; exact H
        clear H
        have H := H1
        clear H1
        replace H := Option.bind_eq_some_iff.mp H
        obtain ⟨t332, A170, H⟩ := H
        replace H : (if x7_1.length + t332.length < 17592186044416 then (tumbrelref09_toward.l0 k1 l0 a1 a2 (x7_1 ++ t332) t326 (t326.length : Int) (wrap64 (x23_1 + 1))) else (none)) = some r := H
        have A17 := Aside0.mk A170
        clear A170
        by_cases c18 : x7_1.length + t332.length < 17592186044416
        ·rw [if_pos c18] at H
         have LMc18 := Aside0.mk c18
         clear c18
         obtain ⟨y335, hy335⟩ : ∃ y_ : List Int, y_ = (x7_1 ++ t332) := ⟨_, rfl⟩
         replace H : (tumbrelref09_toward.l0 k1 l0 a1 a2 y335 t326 (t326.length : Int) (wrap64 (x23_1 + 1))) = some r := by first | (rw [hy335]; with_reducible exact H) | (have H2_ := (Option.bind_some _ _).symm.trans H; rw [hy335]; with_reducible exact H2_) | (have H2_ := (Option.bind_some _ _).symm.trans H; with_reducible exact H2_) | with_reducible exact H | (rw [hy335]; exact H) | exact H
         have Ny335 := Aside0.mk hy335
         clear hy335
         have H' := Aside0.mk H
         clear H
         have p329 : 0 ≤ (x23_1 : Int) := of_decide_eq_true kz12_3
         have q329 : x23_1 < (t326.length : Int) := of_decide_eq_true kz12_3
         obtain ⟨ad329, e329, hx329_0⟩ := Kd.at_int (Kd.R_reads' HO_8.out).2.2 x23_1 p329 q329
         cases e329
         replace p329 := eq_true p329
         replace q329 := eq_true q329
         go_wp2_with (first | ((with_reducible refine gate_callee (f := 96) rfl ?_); refine goesL_ (some 32) rfl rfl Try.func96 (by kernel_rfl) rfl #[.slice A0 l0.length c0, .int .i64 a2, .int .i64 (rd t326 x23_1)] rfl kz12_1 ?_; (with_reducible refine (tumbrelref09_Within.calls k1 _ _ l0 a2 (rd t326 x23_1) true _ ?side1 ?side2 A15.out).mono ?_); (case side1 => repeat (first | exact (Kd.C_below HR0.out HB.out) | (with_reducible refine Kd.C_alloc ?_ _) | (with_reducible refine Kd.C_drewN ?_ _) | (with_reducible refine Kd.C_drew ?_))); (case side2 => exact HC0.out); rintro e w' ⟨rfl, ⟨nd, rfl⟩⟩; refine ⟨_, rfl, ?_⟩; have p331 : 0 ≤ (x23_1 : Int) := of_decide_eq_true kz12_3; have q331 : x23_1 < (t326.length : Int) := of_decide_eq_true kz12_3; obtain ⟨ad331, e331, hx331_0⟩ := Kd.at_int (Kd.R_reads' HO_8.out).2.2 x23_1 p331 q331; obtain rfl : ad329 = ad331 := (by injection e331); replace p331 := eq_true p331; replace q331 := eq_true q331) | ((with_reducible refine gate_callee (f := 97) rfl ?_); refine goesL_ (some 40) rfl rfl Try.func97 (by kernel_rfl) rfl #[.slice A0 l0.length c0, .int .i64 (rd t326 x23_1), .int .i64 a2] rfl kz12_1 ?_; (with_reducible refine (ih k1 (by have := HK1.out; omega) _ _ l0 (rd t326 x23_1) a2 t332 _ ?side1 ?side2 A17.out).mono ?_); (case side1 => repeat (first | exact (Kd.C_below HR0.out kz12_2) | (with_reducible refine Kd.C_alloc ?_ _) | (with_reducible refine Kd.C_drewN ?_ _) | (with_reducible refine Kd.C_drew ?_))); (case side2 => exact HC0.out); rintro e w19 ⟨v333, rfl, ho0, hb⟩; refine ⟨_, rfl, ?_⟩; have n0_ := Aside0.mk (Kd.R_elder' kz12_5 (Kd.R_base ho0) hb); have n1_ := Aside0.mk (Kd.R_elder' kz12_4 (Kd.R_base ho0) hb); have n2_ := Aside0.mk (Kd.R_lower (Kd.R_new' (Kd.R_new' ho0 (Kd.R_lt kz12_5)) (Kd.R_lt kz12_4)) (below_size kz12_2)); have n3_ := Aside0.mk (below_step kz12_2 hb); clear HO_7; clear HO_8; clear HB; have HO_7 := n0_; have HO_8 := n1_; have HO334 := n2_; have HB := n3_; clear n0_ n1_ n2_ n3_; (try clear hb); (try clear hb2); (try clear hk); (try clear hi); (try clear ho0); obtain ⟨Ao21, co21, eo21⟩ := Kd.R_slice HO334.out; subst eo21) | ((with_reducible refine gate_builtin (b := .append) (xs := #[.tmp 33, .tmp 40]) rfl ?_); at_builtin; refine Kd.R_append_rows (Kd.int .i64) (w0 := w) w.heap.size rfl (.tmp 33) (.tmp 40) 65 3 (.int .i64 0) 8 rfl Try.underlying65 info3 rfl (by decide) (by omega) u7 x7_1 t332 _ _ _ (fun k_ => some k_ ≠ (.slice (some ad329) t326.length co11 : Value).ownBlock ∧ some k_ ≠ (.slice Ao21 t332.length co21 : Value).ownBlock) (fun _ => False) rfl rfl ?aO ?aR (fun _ _ h => h) (fun _ h => h.elim) ?aF ?aB ?aS ?aL ?_; (case aR => repeat (first | exact (Kd.R_reads' HO334.out).2.2 | (with_reducible refine Kd.C_alloc ?_ _) | (with_reducible refine Kd.C_drewN ?_ _) | (with_reducible refine Kd.C_drew ?_))); (case aB => exact kz12_2); (case aF => exact (fun k_ hk => ⟨Kd.fresh' (Kd.R_lt kz12_4) k_ hk, Kd.fresh' (Kd.R_lt (by (with_reducible repeat (first | apply Kd.R_alloc | apply Kd.R_drewN | apply Kd.R_drew)); exact HO334.out)) k_ hk⟩)); (case aO => exact kz12_5); (case aS => exact (below_size kz12_2)); (case aL => have := LMc18.out; omega); intro v336 w20 ho hb hg hat; rw [← Ny335.out] at ho; have n0_ := Aside0.mk (Kd.R_after (ok := (fun k_ => some k_ ≠ (.slice Ao21 t332.length co21 : Value).ownBlock)) (by (with_reducible repeat (first | apply Kd.R_alloc | apply Kd.R_drewN | apply Kd.R_drew)); exact Kd.R_mono HO_8.out (fun _ hk => ⟨hk.2, hk.1⟩)) hg hat); have n1_ := Aside0.mk (Kd.R_after (ok := (fun k_ => some k_ ≠ (.slice (some ad329) t326.length co11 : Value).ownBlock)) (by (with_reducible repeat (first | apply Kd.R_alloc | apply Kd.R_drewN | apply Kd.R_drew)); exact Kd.R_mono HO334.out (fun _ hk => ⟨hk.2, hk.1.2⟩)) hg hat); have n2_ := Aside0.mk (hb); have n3_ := Aside0.mk (ho); clear HO_8; clear HO334; clear HB; clear HO_7; have HO_8 := n0_; have HO334 := n1_; have HB := n2_; have HO337 := n3_; clear n0_ n1_ n2_ n3_; clear ho hb hg hat))
         go_roundg k1
         case measure => have := HK1.out; omega
         case rel => exact ⟨(y335), (wrap64 (x23_1 + 1)), kz12_6, H', ⟨by have := HK1.out; omega⟩, ⟨by (with_reducible repeat (first | apply Kd.R_alloc | apply Kd.R_drewN | apply Kd.R_drew)); exact Kd.R_mono HO337.out (fun _ hk => hk.1)⟩, ⟨by (with_reducible repeat (first | apply Kd.R_alloc | apply Kd.R_drewN | apply Kd.R_drew)); exact Kd.R_mono HO_8.out (fun _ hk => hk.2)⟩, ⟨by repeat (first | (with_reducible first | exact HB.out | apply below_alloc | apply pw_below_drewN | apply below_drew1) | exact HB.out)⟩⟩
        ·rw [if_neg c18] at H
         exact absurd H (by simp)
       ·replace c16 := Bool.eq_false_iff.mpr c16
        subst c16
        have H1 : (if 0 ≤ a1 then (if a1 < (l0.length : Int) then (if (rd_T140 l0 a1).f4 = true then ((tumbrelref09_byDefault.f k1 l0 (rd t326 x23_1)).bind fun t340 => (if x7_1.length + t340.length < 17592186044416 then (tumbrelref09_toward.l0 k1 l0 a1 a2 (x7_1 ++ t340) t326 (t326.length : Int) (wrap64 (x23_1 + 1))) else (none))) else (tumbrelref09_toward.l0 k1 l0 a1 a2 x7_1 t326 (t326.length : Int) (wrap64 (x23_1 + 1)))) else (none)) else (none)) = some r := by rw [if_neg (show ¬ (false = true) by decide)] at H; exact H
        clear H
        have H := H1
        clear H1
        by_cases c22 : 0 ≤ a1
        ·rw [if_pos c22] at H
         have c22b0 : decide (0 ≤ a1) = true := decide_eq_true c22
         clear c22
         by_cases c23 : a1 < (l0.length : Int)
         ·rw [if_pos c23] at H
          have c23b0 : decide (a1 < (l0.length : Int)) = true := decide_eq_true c23
          clear c23
          obtain ⟨bq24, hbq24⟩ : ∃ b_ : Bool, b_ = ((rd_T140 l0 a1).f4) := ⟨_, rfl⟩
          replace H : (if bq24 = true then ((tumbrelref09_byDefault.f k1 l0 (rd t326 x23_1)).bind fun t340 => (if x7_1.length + t340.length < 17592186044416 then (tumbrelref09_toward.l0 k1 l0 a1 a2 (x7_1 ++ t340) t326 (t326.length : Int) (wrap64 (x23_1 + 1))) else (none))) else (tumbrelref09_toward.l0 k1 l0 a1 a2 x7_1 t326 (t326.length : Int) (wrap64 (x23_1 + 1)))) = some r := by rw [← hbq24] at H; exact H
          have Nbq24 := Aside0.mk hbq24
          clear hbq24
          by_cases c25 : bq24 = true
          ·subst c25
           have H1 : ((tumbrelref09_byDefault.f k1 l0 (rd t326 x23_1)).bind fun t340 => (if x7_1.length + t340.length < 17592186044416 then (tumbrelref09_toward.l0 k1 l0 a1 a2 (x7_1 ++ t340) t326 (t326.length : Int) (wrap64 (x23_1 + 1))) else (none))) = some r := by rw [if_pos rfl] at H; exact H
           clear H
           have H := H1
           clear H1
           replace H := Option.bind_eq_some_iff.mp H
           obtain ⟨t340, A260, H⟩ := H
           replace H : (if x7_1.length + t340.length < 17592186044416 then (tumbrelref09_toward.l0 k1 l0 a1 a2 (x7_1 ++ t340) t326 (t326.length : Int) (wrap64 (x23_1 + 1))) else (none)) = some r := H
           have A26 := Aside0.mk A260
           clear A260
           by_cases c27 : x7_1.length + t340.length < 17592186044416
           ·rw [if_pos c27] at H
            have LMc27 := Aside0.mk c27
            clear c27
            obtain ⟨y343, hy343⟩ : ∃ y_ : List Int, y_ = (x7_1 ++ t340) := ⟨_, rfl⟩
            replace H : (tumbrelref09_toward.l0 k1 l0 a1 a2 y343 t326 (t326.length : Int) (wrap64 (x23_1 + 1))) = some r := by first | (rw [hy343]; with_reducible exact H) | (have H2_ := (Option.bind_some _ _).symm.trans H; rw [hy343]; with_reducible exact H2_) | (have H2_ := (Option.bind_some _ _).symm.trans H; with_reducible exact H2_) | with_reducible exact H | (rw [hy343]; exact H) | exact H
            have Ny343 := Aside0.mk hy343
            clear hy343
            have H' := Aside0.mk H
            clear H
            have p329 : 0 ≤ (x23_1 : Int) := of_decide_eq_true kz12_3
            have q329 : x23_1 < (t326.length : Int) := of_decide_eq_true kz12_3
            obtain ⟨ad329, e329, hx329_0⟩ := Kd.at_int (Kd.R_reads' HO_8.out).2.2 x23_1 p329 q329
            cases e329
            replace p329 := eq_true p329
            replace q329 := eq_true q329
            go_wp2_with (first | ((with_reducible refine gate_callee (f := 96) rfl ?_); refine goesL_ (some 32) rfl rfl Try.func96 (by kernel_rfl) rfl #[.slice A0 l0.length c0, .int .i64 a2, .int .i64 (rd t326 x23_1)] rfl kz12_1 ?_; (with_reducible refine (tumbrelref09_Within.calls k1 _ _ l0 a2 (rd t326 x23_1) false _ ?side1 ?side2 A15.out).mono ?_); (case side1 => repeat (first | exact (Kd.C_below HR0.out HB.out) | (with_reducible refine Kd.C_alloc ?_ _) | (with_reducible refine Kd.C_drewN ?_ _) | (with_reducible refine Kd.C_drew ?_))); (case side2 => exact HC0.out); rintro e w' ⟨rfl, ⟨nd, rfl⟩⟩; refine ⟨_, rfl, ?_⟩; have p338 : 0 ≤ (a1 : Int) := of_decide_eq_true kz12_3; have q338 : a1 < (l0.length : Int) := of_decide_eq_true kz12_3; obtain ⟨ad338, e338, hx338_0, hx338_1, hx338_2, hx338_3, hx338_4, hx338_5, hx338_6⟩ := at_T140 HR0.out a1 p338 q338; (try rw [← Nbq24.out] at hx338_4); (try rw [← Nbq24.out] at hx338_5); (try rw [← Nbq24.out] at hx338_6); cases e338; replace hx338_0 := (HB.out.cell (World.block_lt_of_cell? w _ hx338_0)).trans hx338_0; replace hx338_1 := (HB.out.cell (World.block_lt_of_cell? w _ hx338_1)).trans hx338_1; replace hx338_2 := (HB.out.cell (World.block_lt_of_cell? w _ hx338_2)).trans hx338_2; replace hx338_3 := (HB.out.cell (World.block_lt_of_cell? w _ hx338_3)).trans hx338_3; replace hx338_4 := (HB.out.cell (World.block_lt_of_cell? w _ hx338_4)).trans hx338_4; replace hx338_5 := (HB.out.cell (World.block_lt_of_cell? w _ hx338_5)).trans hx338_5; replace hx338_6 := (HB.out.cell (World.block_lt_of_cell? w _ hx338_6)).trans hx338_6; replace p338 := eq_true p338; replace q338 := eq_true q338; have p339 : 0 ≤ (x23_1 : Int) := of_decide_eq_true kz12_3; have q339 : x23_1 < (t326.length : Int) := of_decide_eq_true kz12_3; obtain ⟨ad339, e339, hx339_0⟩ := Kd.at_int (Kd.R_reads' HO_8.out).2.2 x23_1 p339 q339; obtain rfl : ad329 = ad339 := (by injection e339); replace p339 := eq_true p339; replace q339 := eq_true q339) | ((with_reducible refine gate_callee (f := 94) rfl ?_); refine goesL_ (some 53) rfl rfl Try.func94 (by kernel_rfl) rfl #[.slice (some ad338) l0.length c0, .int .i64 (rd t326 x23_1)] rfl kz12_1 ?_; (with_reducible refine (tumbrelref09_byDefault.calls k1 _ _ l0 (rd t326 x23_1) t340 _ ?side1 ?side2 A26.out).mono ?_); (case side1 => repeat (first | exact (Kd.C_below HR0.out kz12_2) | (with_reducible refine Kd.C_alloc ?_ _) | (with_reducible refine Kd.C_drewN ?_ _) | (with_reducible refine Kd.C_drew ?_))); (case side2 => exact HC0.out); rintro e w28 ⟨v341, rfl, ho0, hb⟩; refine ⟨_, rfl, ?_⟩; have n0_ := Aside0.mk (Kd.R_elder' kz12_5 (Kd.R_base ho0) hb); have n1_ := Aside0.mk (Kd.R_elder' kz12_4 (Kd.R_base ho0) hb); have n2_ := Aside0.mk (Kd.R_lower (Kd.R_new' (Kd.R_new' ho0 (Kd.R_lt kz12_5)) (Kd.R_lt kz12_4)) (below_size kz12_2)); have n3_ := Aside0.mk (below_step kz12_2 hb); clear HO_7; clear HO_8; clear HB; have HO_7 := n0_; have HO_8 := n1_; have HO342 := n2_; have HB := n3_; clear n0_ n1_ n2_ n3_; (try clear hb); (try clear hb2); (try clear hk); (try clear hi); (try clear ho0); obtain ⟨Ao30, co30, eo30⟩ := Kd.R_slice HO342.out; subst eo30) | ((with_reducible refine gate_builtin (b := .append) (xs := #[.tmp 47, .tmp 53]) rfl ?_); at_builtin; refine Kd.R_append_rows (Kd.int .i64) (w0 := w) w.heap.size rfl (.tmp 47) (.tmp 53) 65 3 (.int .i64 0) 8 rfl Try.underlying65 info3 rfl (by decide) (by omega) u7 x7_1 t340 _ _ _ (fun k_ => some k_ ≠ (.slice (some ad329) t326.length co11 : Value).ownBlock ∧ some k_ ≠ (.slice Ao30 t340.length co30 : Value).ownBlock) (fun _ => False) rfl rfl ?aO ?aR (fun _ _ h => h) (fun _ h => h.elim) ?aF ?aB ?aS ?aL ?_; (case aR => repeat (first | exact (Kd.R_reads' HO342.out).2.2 | (with_reducible refine Kd.C_alloc ?_ _) | (with_reducible refine Kd.C_drewN ?_ _) | (with_reducible refine Kd.C_drew ?_))); (case aB => exact kz12_2); (case aF => exact (fun k_ hk => ⟨Kd.fresh' (Kd.R_lt kz12_4) k_ hk, Kd.fresh' (Kd.R_lt (by (with_reducible repeat (first | apply Kd.R_alloc | apply Kd.R_drewN | apply Kd.R_drew)); exact HO342.out)) k_ hk⟩)); (case aO => exact kz12_5); (case aS => exact (below_size kz12_2)); (case aL => have := LMc27.out; omega); intro v344 w29 ho hb hg hat; rw [← Ny343.out] at ho; have n0_ := Aside0.mk (Kd.R_after (ok := (fun k_ => some k_ ≠ (.slice Ao30 t340.length co30 : Value).ownBlock)) (by (with_reducible repeat (first | apply Kd.R_alloc | apply Kd.R_drewN | apply Kd.R_drew)); exact Kd.R_mono HO_8.out (fun _ hk => ⟨hk.2, hk.1⟩)) hg hat); have n1_ := Aside0.mk (Kd.R_after (ok := (fun k_ => some k_ ≠ (.slice (some ad329) t326.length co11 : Value).ownBlock)) (by (with_reducible repeat (first | apply Kd.R_alloc | apply Kd.R_drewN | apply Kd.R_drew)); exact Kd.R_mono HO342.out (fun _ hk => ⟨hk.2, hk.1.2⟩)) hg hat); have n2_ := Aside0.mk (hb); have n3_ := Aside0.mk (ho); clear HO_8; clear HO342; clear HB; clear HO_7; have HO_8 := n0_; have HO342 := n1_; have HB := n2_; have HO345 := n3_; clear n0_ n1_ n2_ n3_; clear ho hb hg hat))
            go_roundg k1
            case measure => have := HK1.out; omega
            case rel => exact ⟨(y343), (wrap64 (x23_1 + 1)), kz12_6, H', ⟨by have := HK1.out; omega⟩, ⟨by (with_reducible repeat (first | apply Kd.R_alloc | apply Kd.R_drewN | apply Kd.R_drew)); exact Kd.R_mono HO345.out (fun _ hk => hk.1)⟩, ⟨by (with_reducible repeat (first | apply Kd.R_alloc | apply Kd.R_drewN | apply Kd.R_drew)); exact Kd.R_mono HO_8.out (fun _ hk => hk.2)⟩, ⟨by repeat (first | (with_reducible first | exact HB.out | apply below_alloc | apply pw_below_drewN | apply below_drew1) | exact HB.out)⟩⟩
           ·rw [if_neg c27] at H
            exact absurd H (by simp)
          ·replace c25 := Bool.eq_false_iff.mpr c25
           subst c25
           have H1 : (tumbrelref09_toward.l0 k1 l0 a1 a2 x7_1 t326 (t326.length : Int) (wrap64 (x23_1 + 1))) = some r := by rw [if_neg (show ¬ (false = true) by decide)] at H; exact H
           clear H
           have H := H1
           clear H1
           have H' := Aside0.mk H
           clear H
           have p329 : 0 ≤ (x23_1 : Int) := of_decide_eq_true kz12_3
           have q329 : x23_1 < (t326.length : Int) := of_decide_eq_true kz12_3
           obtain ⟨ad329, e329, hx329_0⟩ := Kd.at_int (Kd.R_reads' HO_8.out).2.2 x23_1 p329 q329
           cases e329
           replace p329 := eq_true p329
           replace q329 := eq_true q329
           go_wp2_with (first | ((with_reducible refine gate_callee (f := 96) rfl ?_); refine goesL_ (some 32) rfl rfl Try.func96 (by kernel_rfl) rfl #[.slice A0 l0.length c0, .int .i64 a2, .int .i64 (rd t326 x23_1)] rfl kz12_1 ?_; (with_reducible refine (tumbrelref09_Within.calls k1 _ _ l0 a2 (rd t326 x23_1) false _ ?side1 ?side2 A15.out).mono ?_); (case side1 => repeat (first | exact (Kd.C_below HR0.out HB.out) | (with_reducible refine Kd.C_alloc ?_ _) | (with_reducible refine Kd.C_drewN ?_ _) | (with_reducible refine Kd.C_drew ?_))); (case side2 => exact HC0.out); rintro e w' ⟨rfl, ⟨nd, rfl⟩⟩; refine ⟨_, rfl, ?_⟩; have p338 : 0 ≤ (a1 : Int) := of_decide_eq_true kz12_3; have q338 : a1 < (l0.length : Int) := of_decide_eq_true kz12_3; obtain ⟨ad338, e338, hx338_0, hx338_1, hx338_2, hx338_3, hx338_4, hx338_5, hx338_6⟩ := at_T140 HR0.out a1 p338 q338; (try rw [← Nbq24.out] at hx338_4); (try rw [← Nbq24.out] at hx338_5); (try rw [← Nbq24.out] at hx338_6); cases e338; replace hx338_0 := (HB.out.cell (World.block_lt_of_cell? w _ hx338_0)).trans hx338_0; replace hx338_1 := (HB.out.cell (World.block_lt_of_cell? w _ hx338_1)).trans hx338_1; replace hx338_2 := (HB.out.cell (World.block_lt_of_cell? w _ hx338_2)).trans hx338_2; replace hx338_3 := (HB.out.cell (World.block_lt_of_cell? w _ hx338_3)).trans hx338_3; replace hx338_4 := (HB.out.cell (World.block_lt_of_cell? w _ hx338_4)).trans hx338_4; replace hx338_5 := (HB.out.cell (World.block_lt_of_cell? w _ hx338_5)).trans hx338_5; replace hx338_6 := (HB.out.cell (World.block_lt_of_cell? w _ hx338_6)).trans hx338_6; replace p338 := eq_true p338; replace q338 := eq_true q338))
           go_roundg k1
           case measure => have := HK1.out; omega
           case rel => exact ⟨(x7_1), (wrap64 (x23_1 + 1)), kz12_6, H', ⟨by have := HK1.out; omega⟩, ⟨by (with_reducible repeat (first | apply Kd.R_alloc | apply Kd.R_drewN | apply Kd.R_drew)); exact HO_7.out⟩, ⟨by (with_reducible repeat (first | apply Kd.R_alloc | apply Kd.R_drewN | apply Kd.R_drew)); exact HO_8.out⟩, ⟨by repeat (first | (with_reducible first | exact HB.out | apply below_alloc | apply pw_below_drewN | apply below_drew1) | exact HB.out)⟩⟩
         ·rw [if_neg c23] at H
          exact absurd H (by simp)
        ·rw [if_neg c22] at H
         exact absurd H (by simp)
      ·rw [if_neg c14] at H
       exact absurd H (by simp)
     ·rw [if_neg c13] at H
      exact absurd H (by simp)
    ·rw [if_neg c12] at H
     have c12b0 : decide (x23_1 < (t326.length : Int)) = false := decide_eq_false c12
     clear c12
     obtain rfl := Option.some.inj H
     go_wp2
     go_ret
     exact ⟨_, by first | rfl | (simp [errW_none, errW_some] <;> rfl) | (simp [*, errW_none, errW_some] <;> rfl), by (with_reducible repeat (first | apply Kd.R_alloc | apply Kd.R_drewN | apply Kd.R_drew)); exact Kd.R_mono HO_7.out (fun _ hk => trivial), by repeat (first | (with_reducible first | exact HB.out | apply below_alloc | apply pw_below_drewN | apply below_drew1) | exact HB.out)⟩

end Go.Proofs.Ytjghlomkimoeoaa.PConfigAsks
