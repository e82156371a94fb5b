-- Written by fprint.py (wip), by way of the printer's functions; where they are turned, by texts of mine.
import Derived.Test.YtjghlomkimoeoaaPConfigAsksx0
import Derived.Test.YtjghlomkimoeoaaPConfigAsksx2
import Derived.Test.YtjghlomkimoeoaaPConfigAsksx3
namespace Go.Proofs.Ytjghlomkimoeoaa.PConfigAsks
open Go.RowKit Go.Proofs.YtjghlomkimoeoaaW.PrintWords Go.Proofs.YtjghlomkimoeoaaW.PrintLast Go.Proofs.YtjghlomkimoeoaaW.PrintMore
attribute [local go_sem] max2_int min2_int max_two min_two max_three min_three max_four min_four   -- for this text's walks alone
set_option linter.unusedVariables false
set_option linter.unusedSimpArgs false
theorem kz4_1 {p_ : Prop} (h_ : p_ := by first | (with_reducible assumption) | assumption) : p_ := h_
theorem kz4_2 {p_ : Prop} (h_ : p_ := by repeat (first | (with_reducible first | exact HB.out | apply below_alloc | apply pw_below_drewN | apply below_drew1) | exact HB.out)) : p_ := h_
theorem kz4_3 {p_ : Prop} (h_ : p_ := by first | rfl | (simp; done) | (simp [*]; done)) : p_ := h_
theorem kz4_4 {p_ : Prop} (h_ : p_ := by (try simp only [List.map_toArray, List.map_cons, List.map_nil]); first | done | rfl | (simp only [List.length_drop, List.length_take]; rfl)) : p_ := h_
theorem kz4_5 {p_ : Prop} (h_ : p_ := by (with_reducible repeat (first | apply Kd.R_alloc | apply Kd.R_drewN | apply Kd.R_drew)); exact HO_5.out) : p_ := h_

/-! ### config_Legal: function 44 -/
mutual
def config_Legal.j0 : Nat → List (S86) → List Int → Bool → Option (Bool)
 | 0, _, _, _ => none
 | k + 1, x0, x1, x19 => if x19 = true then (some false) else (if 0 ≤ (wrap64 ((x0.length : Int) + 1)) then (if (wrap64 ((x0.length : Int) + 1) : Int).toNat ≤ 35184372088832 then (config_Legal.l0 k x0 x1 (List.replicate (wrap64 ((x0.length : Int) + 1) : Int).toNat 0) x1 (x1.length : Int) 0) else (none)) else (none))
def config_Legal.l0 : Nat → List (S86) → List Int → List Int → List Int → Int → Int → Option (Bool)
 | 0, _, _, _, _, _, _ => none
 | k + 1, x0, x1, x5, x24, x25, x26 => if x26 < x25 then (if 0 ≤ x26 then (if x26 < (x24.length : Int) then (if (rd x24 x26) < 0 then (config_Legal.j2 k x0 x1 x5 (rd x24 x26) x24 x25 x26 true) else (if (rd x24 x26) ≥ (x0.length : Int) then (config_Legal.j2 k x0 x1 x5 (rd x24 x26) x24 x25 x26 true) else (if x26 > 0 then (if 0 ≤ (wrap64 (x26 - 1)) then (if (wrap64 (x26 - 1)) < (x1.length : Int) then (config_Legal.j2 k x0 x1 x5 (rd x24 x26) x24 x25 x26 (decide ((rd x1 (wrap64 (x26 - 1))) ≥ (rd x24 x26)))) else (none)) else (none)) else (config_Legal.j2 k x0 x1 x5 (rd x24 x26) x24 x25 x26 false)))) else (none)) else (none)) else (config_Legal.l1 k x0 x5 x1 (x1.length : Int) 0)
def config_Legal.j2 : Nat → List (S86) → List Int → List Int → Int → List Int → Int → Int → Bool → Option (Bool)
 | 0, _, _, _, _, _, _, _, _ => none
 | k + 1, x0, x1, x5, x7, x24, x25, x26, x51 => if x51 = true then (some false) else (if 0 ≤ x7 then (if x7 < (x0.length : Int) then (if ((rd_T86 x0 x7).f1) ≥ 0 then ((slices_Contains_int_int.f k x1 ((rd_T86 x0 x7).f1)).bind fun t133 => (if t133 = true then (if 0 ≤ (wrap64 (((rd_T86 x0 x7).f1) + 1)) then (if (wrap64 (((rd_T86 x0 x7).f1) + 1)) < (x5.length : Int) then (config_Legal.l0 k x0 x1 (x5.set ((wrap64 (((rd_T86 x0 x7).f1) + 1)) : Int).toNat (wrap64 ((rd x5 (wrap64 (((rd_T86 x0 x7).f1) + 1))) + 1))) x24 x25 (wrap64 (x26 + 1))) else (none)) else (none)) else (some false))) else (if 0 ≤ (wrap64 (((rd_T86 x0 x7).f1) + 1)) then (if (wrap64 (((rd_T86 x0 x7).f1) + 1)) < (x5.length : Int) then (config_Legal.l0 k x0 x1 (x5.set ((wrap64 (((rd_T86 x0 x7).f1) + 1)) : Int).toNat (wrap64 ((rd x5 (wrap64 (((rd_T86 x0 x7).f1) + 1))) + 1))) x24 x25 (wrap64 (x26 + 1))) else (none)) else (none))) else (none)) else (none))
def config_Legal.l1 : Nat → List (S86) → List Int → List Int → Int → Int → Option (Bool)
 | 0, _, _, _, _, _ => none
 | k + 1, x0, x5, x77, x78, x79 => if x79 < x78 then (if 0 ≤ x79 then (if x79 < (x77.length : Int) then (if 0 ≤ (rd x77 x79) then (if (rd x77 x79) < (x0.length : Int) then (if (rd_T86 x0 (rd x77 x79)).f6 = true then (if 0 ≤ (wrap64 ((rd x77 x79) + 1)) then (if (wrap64 ((rd x77 x79) + 1)) < (x5.length : Int) then (if (rd x5 (wrap64 ((rd x77 x79) + 1))) = 0 then (config_Legal.l1 k x0 x5 x77 x78 (wrap64 (x79 + 1))) else (some false)) else (none)) else (none)) else (if (rd_T86 x0 (rd x77 x79)).f4 = true then ((tree_Inner.f k x0 (rd x77 x79)).bind fun t145 => (if 0 ≤ (wrap64 ((rd x77 x79) + 1)) then (if (wrap64 ((rd x77 x79) + 1)) < (x5.length : Int) then (if (rd x5 (wrap64 ((rd x77 x79) + 1))) = (t145.length : Int) then (config_Legal.l1 k x0 x5 x77 x78 (wrap64 (x79 + 1))) else (some false)) else (none)) else (none))) else (if 0 ≤ (wrap64 ((rd x77 x79) + 1)) then (if (wrap64 ((rd x77 x79) + 1)) < (x5.length : Int) then (if (rd x5 (wrap64 ((rd x77 x79) + 1))) = 1 then (config_Legal.l1 k x0 x5 x77 x78 (wrap64 (x79 + 1))) else (some false)) else (none)) else (none)))) else (none)) else (none)) else (none)) else (none)) else (if 0 < (x5.length : Int) then (some ((rd x5 0) == 1)) else (none))
end
def config_Legal.f (k : Nat) (l0 : List (S86)) (l1 : List Int) : Option (Bool) := (tree_Formed.f k l0).bind fun t126 => (if t126 = true then (config_Legal.j0 k l0 l1 ((l1.length : Int) == 0)) else (config_Legal.j0 k l0 l1 true))
theorem config_Legal.mono_l : ∀ k, (∀ y0 y1 y2, LeO (config_Legal.j0 k y0 y1 y2) (config_Legal.j0 (k + 1) y0 y1 y2)) ∧ (∀ y0 y1 y2 y3 y4 y5, LeO (config_Legal.l0 k y0 y1 y2 y3 y4 y5) (config_Legal.l0 (k + 1) y0 y1 y2 y3 y4 y5)) ∧ (∀ y0 y1 y2 y3 y4 y5 y6 y7, LeO (config_Legal.j2 k y0 y1 y2 y3 y4 y5 y6 y7) (config_Legal.j2 (k + 1) y0 y1 y2 y3 y4 y5 y6 y7)) ∧ (∀ y0 y1 y2 y3 y4, LeO (config_Legal.l1 k y0 y1 y2 y3 y4) (config_Legal.l1 (k + 1) y0 y1 y2 y3 y4))
 | 0 => ⟨fun _ _ _ r h => by simp [config_Legal.j0] at h, fun _ _ _ _ _ _ r h => by simp [config_Legal.l0] at h, fun _ _ _ _ _ _ _ _ r h => by simp [config_Legal.j2] at h, fun _ _ _ _ _ r h => by simp [config_Legal.l1] at h⟩
 | k + 1 => by
  obtain ⟨ih0, ih1, ih2, ih3⟩ := config_Legal.mono_l k
  refine ⟨?_, ?_, ?_, ?_⟩
  ·intro y0 y1 y2
   unfold config_Legal.j0
   repeat' first
   | (with_reducible exact ih0 _ _ _)
   | (with_reducible exact ih1 _ _ _ _ _ _)
   | (with_reducible exact ih2 _ _ _ _ _ _ _ _)
   | (with_reducible exact ih3 _ _ _ _ _)
   | (with_reducible exact slices_Contains_int_int.mono _ _ _)
   | (with_reducible exact tree_Formed.mono _ _)
   | (with_reducible exact tree_Inner.mono _ _ _)
   | (with_reducible exact LeO.refl _)
   | (with_reducible exact LeO.none _)
   | (with_reducible refine LeO.ite ?_ ?_)
   | (with_reducible refine LeO.bind ?_ (fun _ => ?_))
   | exact ih0 _ _ _
   | exact ih1 _ _ _ _ _ _
   | exact ih2 _ _ _ _ _ _ _ _
   | exact ih3 _ _ _ _ _
   | exact slices_Contains_int_int.mono _ _ _
   | exact tree_Formed.mono _ _
   | exact tree_Inner.mono _ _ _
   | exact LeO.none _
   | refine LeO.ite ?_ ?_
   | refine LeO.bind ?_ (fun _ => ?_)
  ·intro y0 y1 y2 y3 y4 y5
   unfold config_Legal.l0
   repeat' first
   | (with_reducible exact ih0 _ _ _)
   | (with_reducible exact ih1 _ _ _ _ _ _)
   | (with_reducible exact ih2 _ _ _ _ _ _ _ _)
   | (with_reducible exact ih3 _ _ _ _ _)
   | (with_reducible exact slices_Contains_int_int.mono _ _ _)
   | (with_reducible exact tree_Formed.mono _ _)
   | (with_reducible exact tree_Inner.mono _ _ _)
   | (with_reducible exact LeO.refl _)
   | (with_reducible exact LeO.none _)
   | (with_reducible refine LeO.ite ?_ ?_)
   | (with_reducible refine LeO.bind ?_ (fun _ => ?_))
   | exact ih0 _ _ _
   | exact ih1 _ _ _ _ _ _
   | exact ih2 _ _ _ _ _ _ _ _
   | exact ih3 _ _ _ _ _
   | exact slices_Contains_int_int.mono _ _ _
   | exact tree_Formed.mono _ _
   | exact tree_Inner.mono _ _ _
   | exact LeO.none _
   | refine LeO.ite ?_ ?_
   | refine LeO.bind ?_ (fun _ => ?_)
  ·intro y0 y1 y2 y3 y4 y5 y6 y7
   unfold config_Legal.j2
   repeat' first
   | (with_reducible exact ih0 _ _ _)
   | (with_reducible exact ih1 _ _ _ _ _ _)
   | (with_reducible exact ih2 _ _ _ _ _ _ _ _)
   | (with_reducible exact ih3 _ _ _ _ _)
   | (with_reducible exact slices_Contains_int_int.mono _ _ _)
   | (with_reducible exact tree_Formed.mono _ _)
   | (with_reducible exact tree_Inner.mono _ _ _)
   | (with_reducible exact LeO.refl _)
   | (with_reducible exact LeO.none _)
   | (with_reducible refine LeO.ite ?_ ?_)
   | (with_reducible refine LeO.bind ?_ (fun _ => ?_))
   | exact ih0 _ _ _
   | exact ih1 _ _ _ _ _ _
   | exact ih2 _ _ _ _ _ _ _ _
   | exact ih3 _ _ _ _ _
   | exact slices_Contains_int_int.mono _ _ _
   | exact tree_Formed.mono _ _
   | exact tree_Inner.mono _ _ _
   | exact LeO.none _
   | refine LeO.ite ?_ ?_
   | refine LeO.bind ?_ (fun _ => ?_)
  ·intro y0 y1 y2 y3 y4
   unfold config_Legal.l1
   repeat' first
   | (with_reducible exact ih0 _ _ _)
   | (with_reducible exact ih1 _ _ _ _ _ _)
   | (with_reducible exact ih2 _ _ _ _ _ _ _ _)
   | (with_reducible exact ih3 _ _ _ _ _)
   | (with_reducible exact slices_Contains_int_int.mono _ _ _)
   | (with_reducible exact tree_Formed.mono _ _)
   | (with_reducible exact tree_Inner.mono _ _ _)
   | (with_reducible exact LeO.refl _)
   | (with_reducible exact LeO.none _)
   | (with_reducible refine LeO.ite ?_ ?_)
   | (with_reducible refine LeO.bind ?_ (fun _ => ?_))
   | exact ih0 _ _ _
   | exact ih1 _ _ _ _ _ _
   | exact ih2 _ _ _ _ _ _ _ _
   | exact ih3 _ _ _ _ _
   | exact slices_Contains_int_int.mono _ _ _
   | exact tree_Formed.mono _ _
   | exact tree_Inner.mono _ _ _
   | exact LeO.none _
   | refine LeO.ite ?_ ?_
   | refine LeO.bind ?_ (fun _ => ?_)
theorem config_Legal.mono : ∀ a0 a1 k, LeO (config_Legal.f k a0 a1) (config_Legal.f (k + 1) a0 a1) := by
 intro a0 a1 k
 obtain ⟨ih0, ih1, ih2, ih3⟩ := config_Legal.mono_l k
 unfold config_Legal.f
 repeat' first
   | (with_reducible exact ih0 _ _ _)
   | (with_reducible exact ih1 _ _ _ _ _ _)
   | (with_reducible exact ih2 _ _ _ _ _ _ _ _)
   | (with_reducible exact ih3 _ _ _ _ _)
   | (with_reducible exact slices_Contains_int_int.mono _ _ _)
   | (with_reducible exact tree_Formed.mono _ _)
   | (with_reducible exact tree_Inner.mono _ _ _)
   | (with_reducible exact LeO.refl _)
   | (with_reducible exact LeO.none _)
   | (with_reducible refine LeO.ite ?_ ?_)
   | (with_reducible refine LeO.bind ?_ (fun _ => ?_))
   | exact ih0 _ _ _
   | exact ih1 _ _ _ _ _ _
   | exact ih2 _ _ _ _ _ _ _ _
   | exact ih3 _ _ _ _ _
   | exact slices_Contains_int_int.mono _ _ _
   | exact tree_Formed.mono _ _
   | exact tree_Inner.mono _ _ _
   | exact LeO.none _
   | refine LeO.ite ?_ ?_
   | refine LeO.bind ?_ (fun _ => ?_)
set_option maxHeartbeats 8000000 in
set_option maxRecDepth 100000 in
theorem config_Legal.calls (k : Nat) (A0 : Option Addr) (c0 : Nat) (l0 : List (S86)) (A1 : Option Addr) (c1 : Nat) (l1 : List Int) (r : Bool) (w : World) (hr0 : Kd.C k86 w A0 l0.length l0) (hc0 : l0.length ≤ c0) (hr1 : Kd.C (Kd.int .i64) w A1 l1.length l1) (hc1 : l1.length ≤ c1) (h : config_Legal.f k l0 l1 = some r) :
  Calls Try.prog 44 #[.slice A0 l0.length c0, .slice A1 l1.length c1] w fun e w' => e = .returned (.bool r) ∧ Below w.heap.size w w' := by
 have HR0 := Aside0.mk hr0
 have HC0 := Aside0.mk hc0
 clear hr0 hc0
 have HR1 := Aside0.mk hr1
 have HC1 := Aside0.mk hc1
 clear hr1 hc1
 have HB := Aside0.mk (Below.refl w.heap.size w)
 have H : ((tree_Formed.f k l0).bind fun t126 => (if t126 = true then (config_Legal.j0 k l0 l1 ((l1.length : Int) == 0)) else (config_Legal.j0 k l0 l1 true))) = some r := h
 clear h
 have HC3 := Aside0.mk H
 clear H
 go_enter Try.func44, Try.ntmps44
 go_upto_region 1 with (fail)
 go_cut [19] (fun v19 wc => ∃ (kq : Nat) (x19_2 : Bool), v19 = .bool x19_2 ∧ Aside0 (config_Legal.j0 kq l0 l1 x19_2 = some r) ∧ Aside0 (kq ≤ k) ∧ Aside0 (Below w.heap.size w wc))
 case first =>
  have H := HC3.out
  clear HC3
  replace H := Option.bind_eq_some_iff.mp H
  obtain ⟨t126, A40, H⟩ := H
  replace H : (if t126 = true then (config_Legal.j0 k l0 l1 ((l1.length : Int) == 0)) else (config_Legal.j0 k l0 l1 true)) = some r := H
  have A4 := Aside0.mk A40
  clear A40
  by_cases c5 : t126 = true
  ·subst c5
   have H1 : (config_Legal.j0 k l0 l1 ((l1.length : Int) == 0)) = some r := by rw [if_pos rfl] at H; exact H
   clear H
   have H := H1
   clear H1
   have H' := Aside0.mk H
   clear H
   go_wp2_with (first | ((with_reducible refine gate_callee (f := 80) rfl ?_); refine goesL_ (some 13) rfl rfl Try.func80 (by kernel_rfl) rfl #[.slice A0 l0.length c0] rfl kz4_4 ?_; (with_reducible refine (tree_Formed.calls k _ _ l0 true _ ?side1 ?side2 A4.out).mono ?_); (case side1 => repeat (first | exact (Kd.C_below HR0.out HB.out) | (with_reducible refine Kd.C_alloc ?_ _) | (with_reducible refine Kd.C_drewN ?_ _) | (with_reducible refine Kd.C_drew ?_))); (case side2 => exact HC0.out); rintro e w6 ⟨rfl, hb⟩; refine ⟨_, rfl, ?_⟩; have n0_ := Aside0.mk (below_step kz4_2 hb); clear HB; have HB := n0_; clear n0_; (try clear hb); (try clear hb2); (try clear hk); (try clear hi)))
   go_meet
   case rel => exact ⟨_, (((l1.length : Int) == 0)), kz4_3, H', ⟨by first | omega | exact Nat.le_refl _⟩, ⟨by repeat (first | (with_reducible first | exact HB.out | apply below_alloc | apply pw_below_drewN | apply below_drew1) | exact HB.out)⟩⟩
  ·replace c5 := Bool.eq_false_iff.mpr c5
   subst c5
   have H1 : (config_Legal.j0 k l0 l1 true) = some r := by rw [if_neg (show ¬ (false = true) by decide)] at H; exact H
   clear H
   have H := H1
   clear H1
   have H' := Aside0.mk H
   clear H
   go_wp2_with (first | ((with_reducible refine gate_callee (f := 80) rfl ?_); refine goesL_ (some 13) rfl rfl Try.func80 (by kernel_rfl) rfl #[.slice A0 l0.length c0] rfl kz4_4 ?_; (with_reducible refine (tree_Formed.calls k _ _ l0 false _ ?side1 ?side2 A4.out).mono ?_); (case side1 => repeat (first | exact (Kd.C_below HR0.out HB.out) | (with_reducible refine Kd.C_alloc ?_ _) | (with_reducible refine Kd.C_drewN ?_ _) | (with_reducible refine Kd.C_drew ?_))); (case side2 => exact HC0.out); rintro e w7 ⟨rfl, hb⟩; refine ⟨_, rfl, ?_⟩; have n0_ := Aside0.mk (below_step kz4_2 hb); clear HB; have HB := n0_; clear n0_; (try clear hb); (try clear hb2); (try clear hk); (try clear hi)))
   go_meet
   case rel => exact ⟨_, (true), kz4_3, H', ⟨by first | omega | exact Nat.le_refl _⟩, ⟨by repeat (first | (with_reducible first | exact HB.out | apply below_alloc | apply pw_below_drewN | apply below_drew1) | exact HB.out)⟩⟩
 case rest =>
  clear HC3
  try clear c1
  try clear p2
  try clear c4
  try clear c5
  obtain ⟨kq, x19_2, rfl, HA, HJ2, HB⟩ := hcut
  cases kq with
  | zero => exact absurd HA.out (by simp [config_Legal.j0])
  | succ kj2 =>
   have H := HA.out
   clear HA
   simp only [config_Legal.j0] at H
   by_cases c8 : x19_2 = true
   ·subst c8
    have H1 : (some false) = some r := by rw [if_pos rfl] at H; exact H
    clear H
    have H := H1
    clear H1
    obtain rfl := Option.some.inj H
    go_wp2
    go_ret
    exact ⟨by first | rfl | (simp [errW_none, errW_some] <;> rfl) | (simp [*, errW_none, errW_some] <;> rfl), by repeat (first | (with_reducible first | exact HB.out | apply below_alloc | apply pw_below_drewN | apply below_drew1) | exact HB.out)⟩
   ·replace c8 := Bool.eq_false_iff.mpr c8
    subst c8
    have H1 : (if 0 ≤ (wrap64 ((l0.length : Int) + 1)) then (if (wrap64 ((l0.length : Int) + 1) : Int).toNat ≤ 35184372088832 then (config_Legal.l0 kj2 l0 l1 (List.replicate (wrap64 ((l0.length : Int) + 1) : Int).toNat 0) l1 (l1.length : Int) 0) else (none)) else (none)) = some r := by rw [if_neg (show ¬ (false = true) by decide)] at H; exact H
    clear H
    have H := H1
    clear H1
    obtain ⟨ji9, hji9⟩ : ∃ j_ : Int, (wrap64 ((l0.length : Int) + 1)) = j_ := ⟨_, rfl⟩
    replace H : (if 0 ≤ (ji9) then (if (ji9 : Int).toNat ≤ 35184372088832 then (config_Legal.l0 kj2 l0 l1 (List.replicate (ji9 : Int).toNat 0) l1 (l1.length : Int) 0) else (none)) else (none)) = some r := by first | (rw [hji9] at H; exact H) | (simp only [hji9] at H ⊢; exact H)
    have hji9w : (IntKind.i64.wrap ((l0.length : Int) + 1)) = ji9 := (i64_w _).trans hji9
    by_cases c10 : 0 ≤ (ji9)
    ·rw [if_pos c10] at H
     have c10b0 := eq_true c10
     have c10b1 : decide (0 ≤ (ji9)) = true := decide_eq_true c10
     clear c10
     by_cases c11 : (ji9 : Int).toNat ≤ 35184372088832
     ·rw [if_pos c11] at H
      have c11b0 := eq_true c11
      have c11b1 : decide ((ji9 : Int).toNat ≤ 35184372088832) = true := decide_eq_true c11
      clear c11
      obtain ⟨y127, hy127⟩ : ∃ y_ : List Int, y_ = (List.replicate (ji9 : Int).toNat 0) := ⟨_, rfl⟩
      replace H : (config_Legal.l0 kj2 l0 l1 y127 l1 (l1.length : Int) 0) = some r := by first | (rw [hy127]; with_reducible exact H) | (have H2_ := (Option.bind_some _ _).symm.trans H; rw [hy127]; with_reducible exact H2_) | (have H2_ := (Option.bind_some _ _).symm.trans H; with_reducible exact H2_) | with_reducible exact H | (rw [hy127]; exact H) | exact H
      have Ny127 := Aside0.mk hy127
      clear hy127
      have H' := Aside0.mk H
      clear H
      go_wp2_with (first | ((with_reducible refine gate_dst (N := 23) rfl ?_); (try (refine gate_guard (by rfl) ?_; dsimp only)); refine Kd.R_make (Kd.int .i64) _ 3 rfl (N := 23) rfl 65 _ _ rfl ji9 rfl rfl Try.underlying65 (.int .i64 0) 8 info3 rfl (by decide) (by omega) 0 (ok := fun _ => True) (okp := fun _ => True) rfl (fun _ hk => hk) trivial (of_decide_eq_true kz4_1) (Nat.le_trans (Nat.mul_le_mul_right _ (of_decide_eq_true kz4_1 : ji9.toNat ≤ 35184372088832)) (by omega)) (Below.refl _ _) (Nat.le_refl _) ?_; intro v128 w12 ho13 hb hg_ hnew_; clear hg_ hnew_; (first | rw [← Ny127.out] at ho13 | (simp only [Int.reduceToNat] at ho13; rw [← Ny127.out] at ho13)); have n0_ := Aside0.mk (Kd.R_lower ho13 (below_size kz4_2)); have n1_ := Aside0.mk (below_step kz4_2 hb); clear HB; have HO129 := n0_; have HB := n1_; clear n0_ n1_; clear hb ho13))
      go_loopg [26] kj2 (fun kq v26 w' => ∃ (x5_2 : List Int) (x26_2 : Int), v26 = .int .i64 x26_2 ∧ Aside0 (config_Legal.l0 kq l0 l1 x5_2 l1 (l1.length : Int) x26_2 = some r) ∧ Aside0 (kq ≤ kj2) ∧ Aside0 (Kd.R (Kd.int .i64) 3 w' w.heap.size (fun _ => True) v128 x5_2) ∧ Aside0 (Below w.heap.size w w'))
      case atStart => exact ⟨(y127), (0), kz4_3, H', ⟨Nat.le_refl _⟩, ⟨by (with_reducible repeat (first | apply Kd.R_alloc | apply Kd.R_drewN | apply Kd.R_drew)); exact HO129.out⟩, ⟨by repeat (first | (with_reducible first | exact HB.out | apply below_alloc | apply pw_below_drewN | apply below_drew1) | exact HB.out)⟩⟩
      case round =>
       clear H'
       try clear c1
       try clear p2
       try clear c4
       try clear c5
       try clear p6
       try clear c8
       try clear c10
       try clear c10b0
       try clear c10b1
       try clear c11
       try clear c11b0
       try clear c11b1
       try clear p2
       obtain ⟨x5_2, x26_2, rfl, HA, HK2, HO_5, HB⟩ := hrel
       cases gk with
       | zero => exact absurd HA.out (by simp [config_Legal.l0])
       | succ k2 =>
        have H := HA.out
        clear HA
        simp only [config_Legal.l0] at H
        by_cases c14 : x26_2 < (l1.length : Int)
        ·rw [if_pos c14] at H
         have c14b0 : decide (x26_2 < (l1.length : Int)) = true := decide_eq_true c14
         clear c14
         by_cases c15 : 0 ≤ x26_2
         ·rw [if_pos c15] at H
          have c15b0 : decide (0 ≤ x26_2) = true := decide_eq_true c15
          clear c15
          by_cases c16 : x26_2 < (l1.length : Int)
          ·rw [if_pos c16] at H
           have c16b0 : decide (x26_2 < (l1.length : Int)) = true := decide_eq_true c16
           clear c16
           have HC17 := Aside0.mk H
           clear H
           have p130 : 0 ≤ (x26_2 : Int) := of_decide_eq_true kz4_1
           have q130 : x26_2 < (l1.length : Int) := of_decide_eq_true kz4_1
           obtain ⟨ad130, e130, hx130_0⟩ := Kd.at_int HR1.out x26_2 p130 q130
           cases e130
           replace hx130_0 := (HB.out.cell (World.block_lt_of_cell? w _ hx130_0)).trans hx130_0
           replace p130 := eq_true p130
           replace q130 := eq_true q130
           go_upto_region 7 with (fail)
           go_cut [51] (fun v51 wc => ∃ (kq : Nat) (x51_16 : Bool), v51 = .bool x51_16 ∧ Aside0 (config_Legal.j2 kq l0 l1 x5_2 (rd l1 x26_2) l1 (l1.length : Int) x26_2 x51_16 = some r) ∧ Aside0 (kq ≤ k2) ∧ Aside0 (Kd.R (Kd.int .i64) 3 wc w.heap.size (fun _ => True) v128 x5_2) ∧ Aside0 (Below w.heap.size w wc))
           case first =>
            have H := HC17.out
            clear HC17
            by_cases c18 : (rd l1 x26_2) < 0
            ·rw [if_pos c18] at H
             have c18b0 : decide ((rd l1 x26_2) < 0) = true := decide_eq_true c18
             clear c18
             (first | rw [c18b0] | (simp only [i64_w, i32_w]; rw [c18b0]) | skip)
             have H' := Aside0.mk H
             clear H
             go_wp2
             go_meet
             case rel => exact ⟨_, (true), kz4_3, H', ⟨by have := HJ2.out; have := HK2.out; first | omega | exact Nat.le_refl _⟩, ⟨by (with_reducible repeat (first | apply Kd.R_alloc | apply Kd.R_drewN | apply Kd.R_drew)); exact HO_5.out⟩, ⟨by repeat (first | (with_reducible first | exact HB.out | apply below_alloc | apply pw_below_drewN | apply below_drew1) | exact HB.out)⟩⟩
            ·rw [if_neg c18] at H
             have c18b0 : decide ((rd l1 x26_2) < 0) = false := decide_eq_false c18
             clear c18
             (first | rw [c18b0] | (simp only [i64_w, i32_w]; rw [c18b0]) | skip)
             by_cases c19 : (rd l1 x26_2) ≥ (l0.length : Int)
             ·rw [if_pos c19] at H
              have c19b0 : decide ((l0.length : Int) ≤ (rd l1 x26_2)) = true := decide_eq_true c19
              clear c19
              have H' := Aside0.mk H
              clear H
              go_wp2
              go_meet
              case rel => exact ⟨_, (true), kz4_3, H', ⟨by have := HJ2.out; have := HK2.out; first | omega | exact Nat.le_refl _⟩, ⟨by (with_reducible repeat (first | apply Kd.R_alloc | apply Kd.R_drewN | apply Kd.R_drew)); exact HO_5.out⟩, ⟨by repeat (first | (with_reducible first | exact HB.out | apply below_alloc | apply pw_below_drewN | apply below_drew1) | exact HB.out)⟩⟩
             ·rw [if_neg c19] at H
              have c19b0 : decide ((l0.length : Int) ≤ (rd l1 x26_2)) = false := decide_eq_false c19
              clear c19
              by_cases c20 : x26_2 > 0
              ·rw [if_pos c20] at H
               have c20b0 : decide (0 < x26_2) = true := decide_eq_true c20
               clear c20
               obtain ⟨ji21, hji21⟩ : ∃ j_ : Int, (wrap64 (x26_2 - 1)) = j_ := ⟨_, rfl⟩
               replace H : (if 0 ≤ (ji21) then (if (ji21) < (l1.length : Int) then (config_Legal.j2 k2 l0 l1 x5_2 (rd l1 x26_2) l1 (l1.length : Int) x26_2 (decide ((rd l1 (ji21)) ≥ (rd l1 x26_2)))) else (none)) else (none)) = some r := by first | (rw [hji21] at H; exact H) | (simp only [hji21] at H ⊢; exact H)
               have hji21w : (IntKind.i64.wrap (x26_2 - 1)) = ji21 := (i64_w _).trans hji21
               by_cases c22 : 0 ≤ (ji21)
               ·rw [if_pos c22] at H
                have c22b0 : decide (0 ≤ (ji21)) = true := decide_eq_true c22
                clear c22
                by_cases c23 : (ji21) < (l1.length : Int)
                ·rw [if_pos c23] at H
                 have c23b0 : decide ((ji21) < (l1.length : Int)) = true := decide_eq_true c23
                 clear c23
                 have H' := Aside0.mk H
                 clear H
                 have p131 : 0 ≤ ((ji21) : Int) := of_decide_eq_true kz4_1
                 have q131 : (ji21) < (l1.length : Int) := of_decide_eq_true kz4_1
                 obtain ⟨ad131, e131, hx131_0⟩ := Kd.at_int HR1.out (ji21) p131 q131
                 obtain rfl : ad130 = ad131 := (by injection e131)
                 replace hx131_0 := (HB.out.cell (World.block_lt_of_cell? w _ hx131_0)).trans hx131_0
                 replace p131 := eq_true p131
                 replace q131 := eq_true q131
                 go_wp2
                 go_meet
                 case rel => exact ⟨_, (decide ((rd l1 (ji21)) ≥ (rd l1 x26_2))), (by first | rfl | (simp; done) | (simp only [← hji21] <;> (first | rfl | simp)) | (simp [*]; done)), H', ⟨by have := HJ2.out; have := HK2.out; first | omega | exact Nat.le_refl _⟩, ⟨by (with_reducible repeat (first | apply Kd.R_alloc | apply Kd.R_drewN | apply Kd.R_drew)); exact HO_5.out⟩, ⟨by repeat (first | (with_reducible first | exact HB.out | apply below_alloc | apply pw_below_drewN | apply below_drew1) | exact HB.out)⟩⟩
                ·rw [if_neg c23] at H
                 exact absurd H (by simp)
               ·rw [if_neg c22] at H
                exact absurd H (by simp)
              ·rw [if_neg c20] at H
               have c20b0 : decide (0 < x26_2) = false := decide_eq_false c20
               clear c20
               have H' := Aside0.mk H
               clear H
               go_wp2
               go_meet
               case rel => exact ⟨_, (false), kz4_3, H', ⟨by have := HJ2.out; have := HK2.out; first | omega | exact Nat.le_refl _⟩, ⟨by (with_reducible repeat (first | apply Kd.R_alloc | apply Kd.R_drewN | apply Kd.R_drew)); exact HO_5.out⟩, ⟨by repeat (first | (with_reducible first | exact HB.out | apply below_alloc | apply pw_below_drewN | apply below_drew1) | exact HB.out)⟩⟩
           case rest =>
            clear HC17
            try clear c1
            try clear p1
            try clear q1
            try clear hx1
            try clear c2
            try clear p2
            try clear c4
            try clear c5
            try clear p6
            try clear c8
            try clear c10
            try clear c10b0
            try clear c10b1
            try clear c11
            try clear c11b0
            try clear c11b1
            try clear p13
            try clear q13
            try clear hx13
            try clear c14
            try clear c14b0
            try clear c15
            try clear c15b0
            try clear c16
            try clear c16b0
            try clear c18
            try clear c18b0
            try clear c19
            try clear c19b0
            try clear c20
            try clear c20b0
            try clear c22
            try clear c22b0
            try clear c23
            try clear c23b0
            try clear hx130_0
            try clear hx131_0
            try clear p130
            try clear p131
            try clear p2
            try clear p6
            try clear q130
            try clear q131
            obtain ⟨kq, x51_16, rfl, HA, HJ16, HO_5, HB⟩ := hcut
            cases kq with
            | zero => exact absurd HA.out (by simp [config_Legal.j2])
            | succ kj16 =>
             have H := HA.out
             clear HA
             simp only [config_Legal.j2] at H
             by_cases c24 : x51_16 = true
             ·subst c24
              have H1 : (some false) = some r := by rw [if_pos rfl] at H; exact H
              clear H
              have H := H1
              clear H1
              obtain rfl := Option.some.inj H
              go_wp2
              go_ret
              exact ⟨by first | rfl | (simp [errW_none, errW_some] <;> rfl) | (simp only [← hji9]; first | rfl | (simp [errW_none, errW_some] <;> rfl)) | (simp [*, errW_none, errW_some] <;> rfl), by repeat (first | (with_reducible first | exact HB.out | apply below_alloc | apply pw_below_drewN | apply below_drew1) | exact HB.out)⟩
             ·replace c24 := Bool.eq_false_iff.mpr c24
              subst c24
              have H1 : (if 0 ≤ (rd l1 x26_2) then (if (rd l1 x26_2) < (l0.length : Int) then (if ((rd_T86 l0 (rd l1 x26_2)).f1) ≥ 0 then ((slices_Contains_int_int.f kj16 l1 ((rd_T86 l0 (rd l1 x26_2)).f1)).bind fun t133 => (if t133 = true then (if 0 ≤ (wrap64 (((rd_T86 l0 (rd l1 x26_2)).f1) + 1)) then (if (wrap64 (((rd_T86 l0 (rd l1 x26_2)).f1) + 1)) < (x5_2.length : Int) then (config_Legal.l0 kj16 l0 l1 (x5_2.set ((wrap64 (((rd_T86 l0 (rd l1 x26_2)).f1) + 1)) : Int).toNat (wrap64 ((rd x5_2 (wrap64 (((rd_T86 l0 (rd l1 x26_2)).f1) + 1))) + 1))) l1 (l1.length : Int) (wrap64 (x26_2 + 1))) else (none)) else (none)) else (some false))) else (if 0 ≤ (wrap64 (((rd_T86 l0 (rd l1 x26_2)).f1) + 1)) then (if (wrap64 (((rd_T86 l0 (rd l1 x26_2)).f1) + 1)) < (x5_2.length : Int) then (config_Legal.l0 kj16 l0 l1 (x5_2.set ((wrap64 (((rd_T86 l0 (rd l1 x26_2)).f1) + 1)) : Int).toNat (wrap64 ((rd x5_2 (wrap64 (((rd_T86 l0 (rd l1 x26_2)).f1) + 1))) + 1))) l1 (l1.length : Int) (wrap64 (x26_2 + 1))) else (none)) else (none))) else (none)) else (none)) = some r := by rw [if_neg (show ¬ (false = true) by decide)] at H; exact H
              clear H
              have H := H1
              clear H1
              by_cases c25 : 0 ≤ (rd l1 x26_2)
              ·rw [if_pos c25] at H
               have c25b0 : decide (0 ≤ (rd l1 x26_2)) = true := decide_eq_true c25
               clear c25
               by_cases c26 : (rd l1 x26_2) < (l0.length : Int)
               ·rw [if_pos c26] at H
                have c26b0 : decide ((rd l1 x26_2) < (l0.length : Int)) = true := decide_eq_true c26
                clear c26
                by_cases c27 : ((rd_T86 l0 (rd l1 x26_2)).f1) ≥ 0
                ·rw [if_pos c27] at H
                 have c27b0 : decide (0 ≤ ((rd_T86 l0 (rd l1 x26_2)).f1)) = true := decide_eq_true c27
                 clear c27
                 replace H := Option.bind_eq_some_iff.mp H
                 obtain ⟨t133, A280, H⟩ := H
                 replace H : (if t133 = true then (if 0 ≤ (wrap64 (((rd_T86 l0 (rd l1 x26_2)).f1) + 1)) then (if (wrap64 (((rd_T86 l0 (rd l1 x26_2)).f1) + 1)) < (x5_2.length : Int) then (config_Legal.l0 kj16 l0 l1 (x5_2.set ((wrap64 (((rd_T86 l0 (rd l1 x26_2)).f1) + 1)) : Int).toNat (wrap64 ((rd x5_2 (wrap64 (((rd_T86 l0 (rd l1 x26_2)).f1) + 1))) + 1))) l1 (l1.length : Int) (wrap64 (x26_2 + 1))) else (none)) else (none)) else (some false)) = some r := H
                 have A28 := Aside0.mk A280
                 clear A280
                 by_cases c29 : t133 = true
                 ·subst c29
                  have H1 : (if 0 ≤ (wrap64 (((rd_T86 l0 (rd l1 x26_2)).f1) + 1)) then (if (wrap64 (((rd_T86 l0 (rd l1 x26_2)).f1) + 1)) < (x5_2.length : Int) then (config_Legal.l0 kj16 l0 l1 (x5_2.set ((wrap64 (((rd_T86 l0 (rd l1 x26_2)).f1) + 1)) : Int).toNat (wrap64 ((rd x5_2 (wrap64 (((rd_T86 l0 (rd l1 x26_2)).f1) + 1))) + 1))) l1 (l1.length : Int) (wrap64 (x26_2 + 1))) else (none)) else (none)) = some r := by rw [if_pos rfl] at H; exact H
                  clear H
                  have H := H1
                  clear H1
                  obtain ⟨ji30, hji30⟩ : ∃ j_ : Int, (wrap64 (((rd_T86 l0 (rd l1 x26_2)).f1) + 1)) = j_ := ⟨_, rfl⟩
                  replace H : (if 0 ≤ (ji30) then (if (ji30) < (x5_2.length : Int) then (config_Legal.l0 kj16 l0 l1 (x5_2.set ((ji30) : Int).toNat (wrap64 ((rd x5_2 (ji30)) + 1))) l1 (l1.length : Int) (wrap64 (x26_2 + 1))) else (none)) else (none)) = some r := by first | (rw [hji30] at H; exact H) | (simp only [hji30] at H ⊢; exact H)
                  (try rw [hji30] at A28)
                  have hji30w : (IntKind.i64.wrap (((rd_T86 l0 (rd l1 x26_2)).f1) + 1)) = ji30 := (i64_w _).trans hji30
                  by_cases c31 : 0 ≤ (ji30)
                  ·rw [if_pos c31] at H
                   have c31b0 : decide (0 ≤ (ji30)) = true := decide_eq_true c31
                   clear c31
                   by_cases c32 : (ji30) < (x5_2.length : Int)
                   ·rw [if_pos c32] at H
                    have c32b0 : decide ((ji30) < (x5_2.length : Int)) = true := decide_eq_true c32
                    clear c32
                    obtain ⟨y136, hy136⟩ : ∃ y_ : List Int, y_ = (x5_2.set ((ji30) : Int).toNat (wrap64 ((rd x5_2 (ji30)) + 1))) := ⟨_, rfl⟩
                    replace H : (config_Legal.l0 kj16 l0 l1 y136 l1 (l1.length : Int) (wrap64 (x26_2 + 1))) = some r := by first | (rw [hy136]; with_reducible exact H) | (have H2_ := (Option.bind_some _ _).symm.trans H; rw [hy136]; with_reducible exact H2_) | (have H2_ := (Option.bind_some _ _).symm.trans H; with_reducible exact H2_) | with_reducible exact H | (rw [hy136]; exact H) | exact H
                    have Ny136 := Aside0.mk hy136
                    clear hy136
                    have H' := Aside0.mk H
                    clear H
                    have p132 : 0 ≤ ((rd l1 x26_2) : Int) := of_decide_eq_true kz4_1
                    have q132 : (rd l1 x26_2) < (l0.length : Int) := of_decide_eq_true kz4_1
                    obtain ⟨ad132, e132, hx132_0, hx132_1, hx132_2, hx132_3, hx132_4, hx132_5, hx132_6⟩ := at_T86 HR0.out (rd l1 x26_2) p132 q132
                    cases e132
                    replace hx132_0 := (HB.out.cell (World.block_lt_of_cell? w _ hx132_0)).trans hx132_0
                    replace hx132_1 := (HB.out.cell (World.block_lt_of_cell? w _ hx132_1)).trans hx132_1
                    replace hx132_2 := (HB.out.cell (World.block_lt_of_cell? w _ hx132_2)).trans hx132_2
                    replace hx132_3 := (HB.out.cell (World.block_lt_of_cell? w _ hx132_3)).trans hx132_3
                    replace hx132_4 := (HB.out.cell (World.block_lt_of_cell? w _ hx132_4)).trans hx132_4
                    replace hx132_5 := (HB.out.cell (World.block_lt_of_cell? w _ hx132_5)).trans hx132_5
                    replace hx132_6 := (HB.out.cell (World.block_lt_of_cell? w _ hx132_6)).trans hx132_6
                    replace p132 := eq_true p132
                    replace q132 := eq_true q132
                    go_wp2_with (first | (go_at_call 84; (with_reducible refine (slices_Contains_int_int.calls kj16 _ _ l1 ((rd_T86 l0 (rd l1 x26_2)).f1) true _ ?side1 ?side2 A28.out).mono ?_); (case side1 => repeat (first | exact (Kd.C_below HR1.out HB.out) | (with_reducible refine Kd.C_alloc ?_ _) | (with_reducible refine Kd.C_drewN ?_ _) | (with_reducible refine Kd.C_drew ?_))); (case side2 => exact HC1.out); rintro e w' ⟨rfl, ⟨nd, rfl⟩⟩; (try (rw [drewN_self wc]; generalize hq_ : World.drewN wc _ = wc; have n0_ : Aside0 (Kd.R (Kd.int .i64) 3 wc w.heap.size (fun _ => True) v128 x5_2) := ⟨by rw [← hq_]; exact kz4_5⟩; have n1_ : Aside0 (Below w.heap.size w wc) := ⟨by rw [← hq_]; exact kz4_2⟩; clear HO_5 HB hq_; have HO_5 := n0_; have HB := n1_; clear n0_ n1_)); have p134 : 0 ≤ ((rd l1 x26_2) : Int) := of_decide_eq_true kz4_1; have q134 : (rd l1 x26_2) < (l0.length : Int) := of_decide_eq_true kz4_1; obtain ⟨ad134, e134, hx134_0, hx134_1, hx134_2, hx134_3, hx134_4, hx134_5, hx134_6⟩ := at_T86 HR0.out (rd l1 x26_2) p134 q134; obtain rfl : ad132 = ad134 := (by injection e134); replace hx134_0 := (HB.out.cell (World.block_lt_of_cell? w _ hx134_0)).trans hx134_0; replace hx134_1 := (HB.out.cell (World.block_lt_of_cell? w _ hx134_1)).trans hx134_1; replace hx134_2 := (HB.out.cell (World.block_lt_of_cell? w _ hx134_2)).trans hx134_2; replace hx134_3 := (HB.out.cell (World.block_lt_of_cell? w _ hx134_3)).trans hx134_3; replace hx134_4 := (HB.out.cell (World.block_lt_of_cell? w _ hx134_4)).trans hx134_4; replace hx134_5 := (HB.out.cell (World.block_lt_of_cell? w _ hx134_5)).trans hx134_5; replace hx134_6 := (HB.out.cell (World.block_lt_of_cell? w _ hx134_6)).trans hx134_6; replace p134 := eq_true p134; replace q134 := eq_true q134; obtain ⟨Ao34, co34, eo34⟩ := Kd.R_slice HO_5.out; subst eo34; have p135 : 0 ≤ ((ji30) : Int) := of_decide_eq_true kz4_1; have q135 : (ji30) < (x5_2.length : Int) := of_decide_eq_true kz4_1; obtain ⟨ad135, e135, hx135_0⟩ := Kd.at_int (Kd.R_reads' HO_5.out).2.2 (ji30) p135 q135; cases e135; replace p135 := eq_true p135; replace q135 := eq_true q135; have p33 : 0 ≤ ((ji30) : Int) := of_decide_eq_true kz4_1; have q33 : ((ji30) : Int) < ((x5_2.length : Int) : Int) := of_decide_eq_true kz4_1; obtain ⟨go33, co33, eo33, gb33, gl33, cl33, HG33⟩ := Kd.R_form HO_5.out (by omega); (first | cases eo33 | (injection eo33 with ea_ en_ ec_; (first | subst ea_ | (injection ea_ with ea_; subst ea_)); subst ec_; clear en_)); have GB33 := Aside0.mk gb33; have GG33 := Aside0.mk HG33; clear gb33 gl33 HG33; (first | simp only [add_plain] at hx135_0 | skip); obtain ⟨hx33_0, hf33_0⟩ := Kd.R_celln 0 HO_5.out ((ji30) : Int) p33 q33; replace p33 := eq_true p33; replace q33 := eq_true q33; obtain ⟨hy35_, hz35_⟩ := Kd.R_celln 0 HO_5.out ((ji30) : Int) (of_decide_eq_true kz4_1) (of_decide_eq_true kz4_1); have HP35 := Kd.R_putg HO_5.out ((ji30) : Int) (wrap64 ((rd x5_2 (ji30)) + 1))) | ((with_reducible refine gate_store (t := 3) (p := 75) rfl ?_); refine store_event (t := 3) (p := 75) (v := ?vo_w36) (w1 := (wc.setCell ⟨go33, ((ji30) : Int).toNat, none⟩ (.int .i64 (wrap64 ((rd x5_2 (ji30)) + 1))))) ?hg ?ho ?hn ?hr ?_; (case ho => rfl); (case hg => rfl); (case hn => rfl); (case hr => first | (go_simp; done) | (go_simp; rfl)); intro w36 hw; have hg : wc.grownBy w36 (some go33) := (by rw [hw]; exact HP35.2); have hp_ : Kd.R (Kd.int .i64) 3 w36 w.heap.size (fun _ => True) (.slice (some ⟨go33, 0, none⟩) x5_2.length co34) y136 := (by rw [hw, Ny136.out]; exact HP35.1); clear HP35; have n0_ := Aside0.mk (hp_); have n1_ := Aside0.mk ((by rw [hw]; exact below_set (HB.out) GB33.out : Below w.heap.size w w36)); clear HO_5; clear HB; have HO_5 := n0_; have HB := n1_; clear n0_ n1_; clear hg hw hp_))
                    go_roundg kj16
                    case measure => have := HJ2.out; have := HK2.out; have := HJ16.out; omega
                    case rel => exact ⟨(y136), (wrap64 (x26_2 + 1)), kz4_3, H', ⟨by have := HJ2.out; have := HK2.out; have := HJ16.out; omega⟩, ⟨by (with_reducible repeat (first | apply Kd.R_alloc | apply Kd.R_drewN | apply Kd.R_drew)); exact HO_5.out⟩, ⟨by repeat (first | (with_reducible first | exact HB.out | apply below_alloc | apply pw_below_drewN | apply below_drew1) | exact HB.out)⟩⟩
                   ·rw [if_neg c32] at H
                    exact absurd H (by simp)
                  ·rw [if_neg c31] at H
                   exact absurd H (by simp)
                 ·replace c29 := Bool.eq_false_iff.mpr c29
                  subst c29
                  have H1 : (some false) = some r := by rw [if_neg (show ¬ (false = true) by decide)] at H; exact H
                  clear H
                  have H := H1
                  clear H1
                  obtain rfl := Option.some.inj H
                  have p132 : 0 ≤ ((rd l1 x26_2) : Int) := of_decide_eq_true kz4_1
                  have q132 : (rd l1 x26_2) < (l0.length : Int) := of_decide_eq_true kz4_1
                  obtain ⟨ad132, e132, hx132_0, hx132_1, hx132_2, hx132_3, hx132_4, hx132_5, hx132_6⟩ := at_T86 HR0.out (rd l1 x26_2) p132 q132
                  cases e132
                  replace hx132_0 := (HB.out.cell (World.block_lt_of_cell? w _ hx132_0)).trans hx132_0
                  replace hx132_1 := (HB.out.cell (World.block_lt_of_cell? w _ hx132_1)).trans hx132_1
                  replace hx132_2 := (HB.out.cell (World.block_lt_of_cell? w _ hx132_2)).trans hx132_2
                  replace hx132_3 := (HB.out.cell (World.block_lt_of_cell? w _ hx132_3)).trans hx132_3
                  replace hx132_4 := (HB.out.cell (World.block_lt_of_cell? w _ hx132_4)).trans hx132_4
                  replace hx132_5 := (HB.out.cell (World.block_lt_of_cell? w _ hx132_5)).trans hx132_5
                  replace hx132_6 := (HB.out.cell (World.block_lt_of_cell? w _ hx132_6)).trans hx132_6
                  replace p132 := eq_true p132
                  replace q132 := eq_true q132
                  go_wp2_with (first | (go_at_call 84; (with_reducible refine (slices_Contains_int_int.calls kj16 _ _ l1 ((rd_T86 l0 (rd l1 x26_2)).f1) false _ ?side1 ?side2 A28.out).mono ?_); (case side1 => repeat (first | exact (Kd.C_below HR1.out HB.out) | (with_reducible refine Kd.C_alloc ?_ _) | (with_reducible refine Kd.C_drewN ?_ _) | (with_reducible refine Kd.C_drew ?_))); (case side2 => exact HC1.out); rintro e w' ⟨rfl, ⟨nd, rfl⟩⟩))
                  go_ret
                  exact ⟨by first | rfl | (simp [errW_none, errW_some] <;> rfl) | (simp only [← hji9]; first | rfl | (simp [errW_none, errW_some] <;> rfl)) | (simp [*, errW_none, errW_some] <;> rfl), by repeat (first | (with_reducible first | exact HB.out | apply below_alloc | apply pw_below_drewN | apply below_drew1) | exact HB.out)⟩
                ·rw [if_neg c27] at H
                 have c27b0 : decide (0 ≤ ((rd_T86 l0 (rd l1 x26_2)).f1)) = false := decide_eq_false c27
                 clear c27
                 obtain ⟨ji37, hji37⟩ : ∃ j_ : Int, (wrap64 (((rd_T86 l0 (rd l1 x26_2)).f1) + 1)) = j_ := ⟨_, rfl⟩
                 replace H : (if 0 ≤ (ji37) then (if (ji37) < (x5_2.length : Int) then (config_Legal.l0 kj16 l0 l1 (x5_2.set ((ji37) : Int).toNat (wrap64 ((rd x5_2 (ji37)) + 1))) l1 (l1.length : Int) (wrap64 (x26_2 + 1))) else (none)) else (none)) = some r := by first | (rw [hji37] at H; exact H) | (simp only [hji37] at H ⊢; exact H)
                 have hji37w : (IntKind.i64.wrap (((rd_T86 l0 (rd l1 x26_2)).f1) + 1)) = ji37 := (i64_w _).trans hji37
                 by_cases c38 : 0 ≤ (ji37)
                 ·rw [if_pos c38] at H
                  have c38b0 : decide (0 ≤ (ji37)) = true := decide_eq_true c38
                  clear c38
                  by_cases c39 : (ji37) < (x5_2.length : Int)
                  ·rw [if_pos c39] at H
                   have c39b0 : decide ((ji37) < (x5_2.length : Int)) = true := decide_eq_true c39
                   clear c39
                   obtain ⟨y139, hy139⟩ : ∃ y_ : List Int, y_ = (x5_2.set ((ji37) : Int).toNat (wrap64 ((rd x5_2 (ji37)) + 1))) := ⟨_, rfl⟩
                   replace H : (config_Legal.l0 kj16 l0 l1 y139 l1 (l1.length : Int) (wrap64 (x26_2 + 1))) = some r := by first | (rw [hy139]; with_reducible exact H) | (have H2_ := (Option.bind_some _ _).symm.trans H; rw [hy139]; with_reducible exact H2_) | (have H2_ := (Option.bind_some _ _).symm.trans H; with_reducible exact H2_) | with_reducible exact H | (rw [hy139]; exact H) | exact H
                   have Ny139 := Aside0.mk hy139
                   clear hy139
                   have H' := Aside0.mk H
                   clear H
                   have p132 : 0 ≤ ((rd l1 x26_2) : Int) := of_decide_eq_true kz4_1
                   have q132 : (rd l1 x26_2) < (l0.length : Int) := of_decide_eq_true kz4_1
                   obtain ⟨ad132, e132, hx132_0, hx132_1, hx132_2, hx132_3, hx132_4, hx132_5, hx132_6⟩ := at_T86 HR0.out (rd l1 x26_2) p132 q132
                   cases e132
                   replace hx132_0 := (HB.out.cell (World.block_lt_of_cell? w _ hx132_0)).trans hx132_0
                   replace hx132_1 := (HB.out.cell (World.block_lt_of_cell? w _ hx132_1)).trans hx132_1
                   replace hx132_2 := (HB.out.cell (World.block_lt_of_cell? w _ hx132_2)).trans hx132_2
                   replace hx132_3 := (HB.out.cell (World.block_lt_of_cell? w _ hx132_3)).trans hx132_3
                   replace hx132_4 := (HB.out.cell (World.block_lt_of_cell? w _ hx132_4)).trans hx132_4
                   replace hx132_5 := (HB.out.cell (World.block_lt_of_cell? w _ hx132_5)).trans hx132_5
                   replace hx132_6 := (HB.out.cell (World.block_lt_of_cell? w _ hx132_6)).trans hx132_6
                   replace p132 := eq_true p132
                   replace q132 := eq_true q132
                   have p137 : 0 ≤ ((rd l1 x26_2) : Int) := of_decide_eq_true kz4_1
                   have q137 : (rd l1 x26_2) < (l0.length : Int) := of_decide_eq_true kz4_1
                   obtain ⟨ad137, e137, hx137_0, hx137_1, hx137_2, hx137_3, hx137_4, hx137_5, hx137_6⟩ := at_T86 HR0.out (rd l1 x26_2) p137 q137
                   obtain rfl : ad132 = ad137 := (by injection e137)
                   replace hx137_0 := (HB.out.cell (World.block_lt_of_cell? w _ hx137_0)).trans hx137_0
                   replace hx137_1 := (HB.out.cell (World.block_lt_of_cell? w _ hx137_1)).trans hx137_1
                   replace hx137_2 := (HB.out.cell (World.block_lt_of_cell? w _ hx137_2)).trans hx137_2
                   replace hx137_3 := (HB.out.cell (World.block_lt_of_cell? w _ hx137_3)).trans hx137_3
                   replace hx137_4 := (HB.out.cell (World.block_lt_of_cell? w _ hx137_4)).trans hx137_4
                   replace hx137_5 := (HB.out.cell (World.block_lt_of_cell? w _ hx137_5)).trans hx137_5
                   replace hx137_6 := (HB.out.cell (World.block_lt_of_cell? w _ hx137_6)).trans hx137_6
                   replace p137 := eq_true p137
                   replace q137 := eq_true q137
                   obtain ⟨Ao41, co41, eo41⟩ := Kd.R_slice HO_5.out
                   subst eo41
                   have p138 : 0 ≤ ((ji37) : Int) := of_decide_eq_true kz4_1
                   have q138 : (ji37) < (x5_2.length : Int) := of_decide_eq_true kz4_1
                   obtain ⟨ad138, e138, hx138_0⟩ := Kd.at_int (Kd.R_reads' HO_5.out).2.2 (ji37) p138 q138
                   cases e138
                   replace p138 := eq_true p138
                   replace q138 := eq_true q138
                   have p40 : 0 ≤ ((ji37) : Int) := of_decide_eq_true kz4_1
                   have q40 : ((ji37) : Int) < ((x5_2.length : Int) : Int) := of_decide_eq_true kz4_1
                   obtain ⟨go40, co40, eo40, gb40, gl40, cl40, HG40⟩ := Kd.R_form HO_5.out (by omega)
                   (first | cases eo40 | (injection eo40 with ea_ en_ ec_; (first | subst ea_ | (injection ea_ with ea_; subst ea_)); subst ec_; clear en_))
                   have GB40 := Aside0.mk gb40
                   have GG40 := Aside0.mk HG40
                   clear gb40 gl40 HG40
                   (first | simp only [add_plain] at hx138_0 | skip)
                   obtain ⟨hx40_0, hf40_0⟩ := Kd.R_celln 0 HO_5.out ((ji37) : Int) p40 q40
                   replace p40 := eq_true p40
                   replace q40 := eq_true q40
                   have HP42 := Kd.R_putg HO_5.out ((ji37) : Int) (wrap64 ((rd x5_2 (ji37)) + 1))
                   go_wp2_with (first | ((with_reducible refine gate_store (t := 3) (p := 75) rfl ?_); refine store_event (t := 3) (p := 75) (v := ?vo_w43) (w1 := (wc.setCell ⟨go40, ((ji37) : Int).toNat, none⟩ (.int .i64 (wrap64 ((rd x5_2 (ji37)) + 1))))) ?hg ?ho ?hn ?hr ?_; (case ho => rfl); (case hg => rfl); (case hn => rfl); (case hr => first | (go_simp; done) | (go_simp; rfl)); intro w43 hw; have hg : wc.grownBy w43 (some go40) := (by rw [hw]; exact HP42.2); have hp_ : Kd.R (Kd.int .i64) 3 w43 w.heap.size (fun _ => True) (.slice (some ⟨go40, 0, none⟩) x5_2.length co41) y139 := (by rw [hw, Ny139.out]; exact HP42.1); clear HP42; have n0_ := Aside0.mk (hp_); have n1_ := Aside0.mk ((by rw [hw]; exact below_set (HB.out) GB40.out : Below w.heap.size w w43)); clear HO_5; clear HB; have HO_5 := n0_; have HB := n1_; clear n0_ n1_; clear hg hw hp_))
                   go_roundg kj16
                   case measure => have := HJ2.out; have := HK2.out; have := HJ16.out; omega
                   case rel => exact ⟨(y139), (wrap64 (x26_2 + 1)), kz4_3, H', ⟨by have := HJ2.out; have := HK2.out; have := HJ16.out; omega⟩, ⟨by (with_reducible repeat (first | apply Kd.R_alloc | apply Kd.R_drewN | apply Kd.R_drew)); exact HO_5.out⟩, ⟨by repeat (first | (with_reducible first | exact HB.out | apply below_alloc | apply pw_below_drewN | apply below_drew1) | exact HB.out)⟩⟩
                  ·rw [if_neg c39] at H
                   exact absurd H (by simp)
                 ·rw [if_neg c38] at H
                  exact absurd H (by simp)
               ·rw [if_neg c26] at H
                exact absurd H (by simp)
              ·rw [if_neg c25] at H
               exact absurd H (by simp)
          ·rw [if_neg c16] at H
           exact absurd H (by simp)
         ·rw [if_neg c15] at H
          exact absurd H (by simp)
        ·rw [if_neg c14] at H
         have c14b0 : decide (x26_2 < (l1.length : Int)) = false := decide_eq_false c14
         clear c14
         have H' := Aside0.mk H
         clear H
         go_wp2
         go_loopg [79] k2 (fun kq v79 w' => ∃ (x79_3 : Int), v79 = .int .i64 x79_3 ∧ Aside0 (config_Legal.l1 kq l0 x5_2 l1 (l1.length : Int) x79_3 = some r) ∧ Aside0 (kq ≤ k2) ∧ Aside0 (Kd.R (Kd.int .i64) 3 w' w.heap.size (fun _ => True) v128 x5_2) ∧ Aside0 (Below w.heap.size w w'))
         case atStart => exact ⟨(0), kz4_3, H', ⟨Nat.le_refl _⟩, ⟨by (with_reducible repeat (first | apply Kd.R_alloc | apply Kd.R_drewN | apply Kd.R_drew)); exact HO_5.out⟩, ⟨by repeat (first | (with_reducible first | exact HB.out | apply below_alloc | apply pw_below_drewN | apply below_drew1) | exact HB.out)⟩⟩
         case round =>
          clear H'
          try clear c1
          try clear p1
          try clear q1
          try clear hx1
          try clear c2
          try clear p2
          try clear c3
          try clear p3
          try clear q3
          try clear hx3
          try clear hf3
          try clear c4
          try clear p4
          try clear q4
          try clear hx4
          try clear hf4
          try clear c5
          try clear p6
          try clear c8
          try clear c10
          try clear c10b0
          try clear c10b1
          try clear c11
          try clear c11b0
          try clear c11b1
          try clear p13
          try clear q13
          try clear hx13
          try clear c14
          try clear c14b0
          try clear c15
          try clear c15b0
          try clear c16
          try clear c16b0
          try clear c18
          try clear c18b0
          try clear c19
          try clear c19b0
          try clear c20
          try clear c20b0
          try clear c22
          try clear c22b0
          try clear c23
          try clear c23b0
          try clear c24
          try clear c25
          try clear c25b0
          try clear c26
          try clear c26b0
          try clear c27
          try clear c27b0
          try clear c29
          try clear c31
          try clear c31b0
          try clear c32
          try clear c32b0
          try clear p33
          try clear q33
          try clear hx33
          try clear hf33
          try clear c38
          try clear c38b0
          try clear c39
          try clear c39b0
          try clear p40
          try clear q40
          try clear hx40
          try clear hf40
          try clear hx130_0
          try clear hx131_0
          try clear hx132_0
          try clear hx132_1
          try clear hx132_2
          try clear hx132_3
          try clear hx132_4
          try clear hx132_5
          try clear hx132_6
          try clear hx134_0
          try clear hx134_1
          try clear hx134_2
          try clear hx134_3
          try clear hx134_4
          try clear hx134_5
          try clear hx134_6
          try clear hx135_0
          try clear hx137_0
          try clear hx137_1
          try clear hx137_2
          try clear hx137_3
          try clear hx137_4
          try clear hx137_5
          try clear hx137_6
          try clear hx138_0
          try clear hx33_0
          try clear hx40_0
          try clear p1
          try clear p13
          try clear p130
          try clear p131
          try clear p132
          try clear p134
          try clear p135
          try clear p137
          try clear p138
          try clear p2
          try clear p33
          try clear p40
          try clear p6
          try clear q1
          try clear q13
          try clear q130
          try clear q131
          try clear q132
          try clear q134
          try clear q135
          try clear q137
          try clear q138
          try clear q33
          try clear q40
          obtain ⟨x79_3, rfl, HA, HK3, HO_5, HB⟩ := hrel
          cases gk with
          | zero => exact absurd HA.out (by simp [config_Legal.l1])
          | succ k3 =>
           have H := HA.out
           clear HA
           simp only [config_Legal.l1] at H
           by_cases c44 : x79_3 < (l1.length : Int)
           ·rw [if_pos c44] at H
            have c44b0 : decide (x79_3 < (l1.length : Int)) = true := decide_eq_true c44
            clear c44
            by_cases c45 : 0 ≤ x79_3
            ·rw [if_pos c45] at H
             have c45b0 : decide (0 ≤ x79_3) = true := decide_eq_true c45
             clear c45
             by_cases c46 : x79_3 < (l1.length : Int)
             ·rw [if_pos c46] at H
              have c46b0 : decide (x79_3 < (l1.length : Int)) = true := decide_eq_true c46
              clear c46
              by_cases c47 : 0 ≤ (rd l1 x79_3)
              ·rw [if_pos c47] at H
               have c47b0 : decide (0 ≤ (rd l1 x79_3)) = true := decide_eq_true c47
               clear c47
               by_cases c48 : (rd l1 x79_3) < (l0.length : Int)
               ·rw [if_pos c48] at H
                have c48b0 : decide ((rd l1 x79_3) < (l0.length : Int)) = true := decide_eq_true c48
                clear c48
                obtain ⟨bq49, hbq49⟩ : ∃ b_ : Bool, b_ = ((rd_T86 l0 (rd l1 x79_3)).f6) := ⟨_, rfl⟩
                replace H : (if bq49 = true then (if 0 ≤ (wrap64 ((rd l1 x79_3) + 1)) then (if (wrap64 ((rd l1 x79_3) + 1)) < (x5_2.length : Int) then (if (rd x5_2 (wrap64 ((rd l1 x79_3) + 1))) = 0 then (config_Legal.l1 k3 l0 x5_2 l1 (l1.length : Int) (wrap64 (x79_3 + 1))) else (some false)) else (none)) else (none)) else (if (rd_T86 l0 (rd l1 x79_3)).f4 = true then ((tree_Inner.f k3 l0 (rd l1 x79_3)).bind fun t145 => (if 0 ≤ (wrap64 ((rd l1 x79_3) + 1)) then (if (wrap64 ((rd l1 x79_3) + 1)) < (x5_2.length : Int) then (if (rd x5_2 (wrap64 ((rd l1 x79_3) + 1))) = (t145.length : Int) then (config_Legal.l1 k3 l0 x5_2 l1 (l1.length : Int) (wrap64 (x79_3 + 1))) else (some false)) else (none)) else (none))) else (if 0 ≤ (wrap64 ((rd l1 x79_3) + 1)) then (if (wrap64 ((rd l1 x79_3) + 1)) < (x5_2.length : Int) then (if (rd x5_2 (wrap64 ((rd l1 x79_3) + 1))) = 1 then (config_Legal.l1 k3 l0 x5_2 l1 (l1.length : Int) (wrap64 (x79_3 + 1))) else (some false)) else (none)) else (none)))) = some r := by rw [← hbq49] at H; exact H
                have Nbq49 := Aside0.mk hbq49
                clear hbq49
                by_cases c50 : bq49 = true
                ·subst c50
                 have H1 : (if 0 ≤ (wrap64 ((rd l1 x79_3) + 1)) then (if (wrap64 ((rd l1 x79_3) + 1)) < (x5_2.length : Int) then (if (rd x5_2 (wrap64 ((rd l1 x79_3) + 1))) = 0 then (config_Legal.l1 k3 l0 x5_2 l1 (l1.length : Int) (wrap64 (x79_3 + 1))) else (some false)) else (none)) else (none)) = some r := by rw [if_pos rfl] at H; exact H
                 clear H
                 have H := H1
                 clear H1
                 obtain ⟨ji51, hji51⟩ : ∃ j_ : Int, (wrap64 ((rd l1 x79_3) + 1)) = j_ := ⟨_, rfl⟩
                 replace H : (if 0 ≤ (ji51) then (if (ji51) < (x5_2.length : Int) then (if (rd x5_2 (ji51)) = 0 then (config_Legal.l1 k3 l0 x5_2 l1 (l1.length : Int) (wrap64 (x79_3 + 1))) else (some false)) else (none)) else (none)) = some r := by first | (rw [hji51] at H; exact H) | (simp only [hji51] at H ⊢; exact H)
                 have hji51w : (IntKind.i64.wrap ((rd l1 x79_3) + 1)) = ji51 := (i64_w _).trans hji51
                 by_cases c52 : 0 ≤ (ji51)
                 ·rw [if_pos c52] at H
                  have c52b0 : decide (0 ≤ (ji51)) = true := decide_eq_true c52
                  clear c52
                  by_cases c53 : (ji51) < (x5_2.length : Int)
                  ·rw [if_pos c53] at H
                   have c53b0 : decide ((ji51) < (x5_2.length : Int)) = true := decide_eq_true c53
                   clear c53
                   by_cases c54 : (rd x5_2 (ji51)) = 0
                   ·rw [if_pos c54] at H
                    have c54b0 : ((rd x5_2 (ji51)) == 0) = true := beq_iff_eq.mpr c54
                    have c54b1 : ((rd x5_2 (ji51)) != 0) = false := bne_eq_false_iff_eq.mpr c54
                    clear c54
                    have H' := Aside0.mk H
                    clear H
                    have p141 : 0 ≤ (x79_3 : Int) := of_decide_eq_true kz4_1
                    have q141 : x79_3 < (l1.length : Int) := of_decide_eq_true kz4_1
                    obtain ⟨ad141, e141, hx141_0⟩ := Kd.at_int HR1.out x79_3 p141 q141
                    cases e141
                    replace hx141_0 := (HB.out.cell (World.block_lt_of_cell? w _ hx141_0)).trans hx141_0
                    replace p141 := eq_true p141
                    replace q141 := eq_true q141
                    have p142 : 0 ≤ ((rd l1 x79_3) : Int) := of_decide_eq_true kz4_1
                    have q142 : (rd l1 x79_3) < (l0.length : Int) := of_decide_eq_true kz4_1
                    obtain ⟨ad142, e142, hx142_0, hx142_1, hx142_2, hx142_3, hx142_4, hx142_5, hx142_6⟩ := at_T86 HR0.out (rd l1 x79_3) p142 q142
                    (try rw [← Nbq49.out] at hx142_4)
                    (try rw [← Nbq49.out] at hx142_5)
                    (try rw [← Nbq49.out] at hx142_6)
                    cases e142
                    replace hx142_0 := (HB.out.cell (World.block_lt_of_cell? w _ hx142_0)).trans hx142_0
                    replace hx142_1 := (HB.out.cell (World.block_lt_of_cell? w _ hx142_1)).trans hx142_1
                    replace hx142_2 := (HB.out.cell (World.block_lt_of_cell? w _ hx142_2)).trans hx142_2
                    replace hx142_3 := (HB.out.cell (World.block_lt_of_cell? w _ hx142_3)).trans hx142_3
                    replace hx142_4 := (HB.out.cell (World.block_lt_of_cell? w _ hx142_4)).trans hx142_4
                    replace hx142_5 := (HB.out.cell (World.block_lt_of_cell? w _ hx142_5)).trans hx142_5
                    replace hx142_6 := (HB.out.cell (World.block_lt_of_cell? w _ hx142_6)).trans hx142_6
                    replace p142 := eq_true p142
                    replace q142 := eq_true q142
                    obtain ⟨Ao55, co55, eo55⟩ := Kd.R_slice HO_5.out
                    subst eo55
                    have p143 : 0 ≤ ((ji51) : Int) := of_decide_eq_true kz4_1
                    have q143 : (ji51) < (x5_2.length : Int) := of_decide_eq_true kz4_1
                    obtain ⟨ad143, e143, hx143_0⟩ := Kd.at_int (Kd.R_reads' HO_5.out).2.2 (ji51) p143 q143
                    cases e143
                    replace p143 := eq_true p143
                    replace q143 := eq_true q143
                    go_wp2
                    go_roundg k3
                    case measure => have := HJ2.out; have := HK2.out; have := HK3.out; omega
                    case rel => exact ⟨(wrap64 (x79_3 + 1)), kz4_3, H', ⟨by have := HJ2.out; have := HK2.out; have := HK3.out; omega⟩, ⟨by (with_reducible repeat (first | apply Kd.R_alloc | apply Kd.R_drewN | apply Kd.R_drew)); exact HO_5.out⟩, ⟨by repeat (first | (with_reducible first | exact HB.out | apply below_alloc | apply pw_below_drewN | apply below_drew1) | exact HB.out)⟩⟩
                   ·rw [if_neg c54] at H
                    have c54b0 : ((rd x5_2 (ji51)) == 0) = false := beq_eq_false_iff_ne.mpr c54
                    have c54b1 : ((rd x5_2 (ji51)) != 0) = true := bne_iff_ne.mpr c54
                    obtain rfl := Option.some.inj H
                    have p141 : 0 ≤ (x79_3 : Int) := of_decide_eq_true kz4_1
                    have q141 : x79_3 < (l1.length : Int) := of_decide_eq_true kz4_1
                    obtain ⟨ad141, e141, hx141_0⟩ := Kd.at_int HR1.out x79_3 p141 q141
                    cases e141
                    replace hx141_0 := (HB.out.cell (World.block_lt_of_cell? w _ hx141_0)).trans hx141_0
                    replace p141 := eq_true p141
                    replace q141 := eq_true q141
                    have p142 : 0 ≤ ((rd l1 x79_3) : Int) := of_decide_eq_true kz4_1
                    have q142 : (rd l1 x79_3) < (l0.length : Int) := of_decide_eq_true kz4_1
                    obtain ⟨ad142, e142, hx142_0, hx142_1, hx142_2, hx142_3, hx142_4, hx142_5, hx142_6⟩ := at_T86 HR0.out (rd l1 x79_3) p142 q142
                    (try rw [← Nbq49.out] at hx142_4)
                    (try rw [← Nbq49.out] at hx142_5)
                    (try rw [← Nbq49.out] at hx142_6)
                    cases e142
                    replace hx142_0 := (HB.out.cell (World.block_lt_of_cell? w _ hx142_0)).trans hx142_0
                    replace hx142_1 := (HB.out.cell (World.block_lt_of_cell? w _ hx142_1)).trans hx142_1
                    replace hx142_2 := (HB.out.cell (World.block_lt_of_cell? w _ hx142_2)).trans hx142_2
                    replace hx142_3 := (HB.out.cell (World.block_lt_of_cell? w _ hx142_3)).trans hx142_3
                    replace hx142_4 := (HB.out.cell (World.block_lt_of_cell? w _ hx142_4)).trans hx142_4
                    replace hx142_5 := (HB.out.cell (World.block_lt_of_cell? w _ hx142_5)).trans hx142_5
                    replace hx142_6 := (HB.out.cell (World.block_lt_of_cell? w _ hx142_6)).trans hx142_6
                    replace p142 := eq_true p142
                    replace q142 := eq_true q142
                    obtain ⟨Ao56, co56, eo56⟩ := Kd.R_slice HO_5.out
                    subst eo56
                    have p143 : 0 ≤ ((ji51) : Int) := of_decide_eq_true kz4_1
                    have q143 : (ji51) < (x5_2.length : Int) := of_decide_eq_true kz4_1
                    obtain ⟨ad143, e143, hx143_0⟩ := Kd.at_int (Kd.R_reads' HO_5.out).2.2 (ji51) p143 q143
                    cases e143
                    replace p143 := eq_true p143
                    replace q143 := eq_true q143
                    go_wp2
                    go_ret
                    exact ⟨by first | rfl | (simp [errW_none, errW_some] <;> rfl) | (simp only [← hji9, ← hji51]; first | rfl | (simp [errW_none, errW_some] <;> rfl)) | (simp [*, errW_none, errW_some] <;> rfl), by repeat (first | (with_reducible first | exact HB.out | apply below_alloc | apply pw_below_drewN | apply below_drew1) | exact HB.out)⟩
                  ·rw [if_neg c53] at H
                   exact absurd H (by simp)
                 ·rw [if_neg c52] at H
                  exact absurd H (by simp)
                ·replace c50 := Bool.eq_false_iff.mpr c50
                 subst c50
                 have H1 : (if (rd_T86 l0 (rd l1 x79_3)).f4 = true then ((tree_Inner.f k3 l0 (rd l1 x79_3)).bind fun t145 => (if 0 ≤ (wrap64 ((rd l1 x79_3) + 1)) then (if (wrap64 ((rd l1 x79_3) + 1)) < (x5_2.length : Int) then (if (rd x5_2 (wrap64 ((rd l1 x79_3) + 1))) = (t145.length : Int) then (config_Legal.l1 k3 l0 x5_2 l1 (l1.length : Int) (wrap64 (x79_3 + 1))) else (some false)) else (none)) else (none))) else (if 0 ≤ (wrap64 ((rd l1 x79_3) + 1)) then (if (wrap64 ((rd l1 x79_3) + 1)) < (x5_2.length : Int) then (if (rd x5_2 (wrap64 ((rd l1 x79_3) + 1))) = 1 then (config_Legal.l1 k3 l0 x5_2 l1 (l1.length : Int) (wrap64 (x79_3 + 1))) else (some false)) else (none)) else (none))) = some r := by rw [if_neg (show ¬ (false = true) by decide)] at H; exact H
                 clear H
                 have H := H1
                 clear H1
                 obtain ⟨bq57, hbq57⟩ : ∃ b_ : Bool, b_ = ((rd_T86 l0 (rd l1 x79_3)).f4) := ⟨_, rfl⟩
                 replace H : (if bq57 = true then ((tree_Inner.f k3 l0 (rd l1 x79_3)).bind fun t145 => (if 0 ≤ (wrap64 ((rd l1 x79_3) + 1)) then (if (wrap64 ((rd l1 x79_3) + 1)) < (x5_2.length : Int) then (if (rd x5_2 (wrap64 ((rd l1 x79_3) + 1))) = (t145.length : Int) then (config_Legal.l1 k3 l0 x5_2 l1 (l1.length : Int) (wrap64 (x79_3 + 1))) else (some false)) else (none)) else (none))) else (if 0 ≤ (wrap64 ((rd l1 x79_3) + 1)) then (if (wrap64 ((rd l1 x79_3) + 1)) < (x5_2.length : Int) then (if (rd x5_2 (wrap64 ((rd l1 x79_3) + 1))) = 1 then (config_Legal.l1 k3 l0 x5_2 l1 (l1.length : Int) (wrap64 (x79_3 + 1))) else (some false)) else (none)) else (none))) = some r := by rw [← hbq57] at H; exact H
                 have Nbq57 := Aside0.mk hbq57
                 clear hbq57
                 by_cases c58 : bq57 = true
                 ·subst c58
                  have H1 : ((tree_Inner.f k3 l0 (rd l1 x79_3)).bind fun t145 => (if 0 ≤ (wrap64 ((rd l1 x79_3) + 1)) then (if (wrap64 ((rd l1 x79_3) + 1)) < (x5_2.length : Int) then (if (rd x5_2 (wrap64 ((rd l1 x79_3) + 1))) = (t145.length : Int) then (config_Legal.l1 k3 l0 x5_2 l1 (l1.length : Int) (wrap64 (x79_3 + 1))) else (some false)) else (none)) else (none))) = some r := by rw [if_pos rfl] at H; exact H
                  clear H
                  have H := H1
                  clear H1
                  replace H := Option.bind_eq_some_iff.mp H
                  obtain ⟨t145, A590, H⟩ := H
                  replace H : (if 0 ≤ (wrap64 ((rd l1 x79_3) + 1)) then (if (wrap64 ((rd l1 x79_3) + 1)) < (x5_2.length : Int) then (if (rd x5_2 (wrap64 ((rd l1 x79_3) + 1))) = (t145.length : Int) then (config_Legal.l1 k3 l0 x5_2 l1 (l1.length : Int) (wrap64 (x79_3 + 1))) else (some false)) else (none)) else (none)) = some r := H
                  have A59 := Aside0.mk A590
                  clear A590
                  obtain ⟨ji60, hji60⟩ : ∃ j_ : Int, (wrap64 ((rd l1 x79_3) + 1)) = j_ := ⟨_, rfl⟩
                  replace H : (if 0 ≤ (ji60) then (if (ji60) < (x5_2.length : Int) then (if (rd x5_2 (ji60)) = (t145.length : Int) then (config_Legal.l1 k3 l0 x5_2 l1 (l1.length : Int) (wrap64 (x79_3 + 1))) else (some false)) else (none)) else (none)) = some r := by first | (rw [hji60] at H; exact H) | (simp only [hji60] at H ⊢; exact H)
                  (try rw [hji60] at A59)
                  have hji60w : (IntKind.i64.wrap ((rd l1 x79_3) + 1)) = ji60 := (i64_w _).trans hji60
                  by_cases c61 : 0 ≤ (ji60)
                  ·rw [if_pos c61] at H
                   have c61b0 : decide (0 ≤ (ji60)) = true := decide_eq_true c61
                   clear c61
                   by_cases c62 : (ji60) < (x5_2.length : Int)
                   ·rw [if_pos c62] at H
                    have c62b0 : decide ((ji60) < (x5_2.length : Int)) = true := decide_eq_true c62
                    clear c62
                    by_cases c63 : (rd x5_2 (ji60)) = (t145.length : Int)
                    ·rw [if_pos c63] at H
                     have c63b0 : ((rd x5_2 (ji60)) == (t145.length : Int)) = true := beq_iff_eq.mpr c63
                     have c63b1 : ((rd x5_2 (ji60)) != (t145.length : Int)) = false := bne_eq_false_iff_eq.mpr c63
                     clear c63
                     have H' := Aside0.mk H
                     clear H
                     have p141 : 0 ≤ (x79_3 : Int) := of_decide_eq_true kz4_1
                     have q141 : x79_3 < (l1.length : Int) := of_decide_eq_true kz4_1
                     obtain ⟨ad141, e141, hx141_0⟩ := Kd.at_int HR1.out x79_3 p141 q141
                     cases e141
                     replace hx141_0 := (HB.out.cell (World.block_lt_of_cell? w _ hx141_0)).trans hx141_0
                     replace p141 := eq_true p141
                     replace q141 := eq_true q141
                     have p142 : 0 ≤ ((rd l1 x79_3) : Int) := of_decide_eq_true kz4_1
                     have q142 : (rd l1 x79_3) < (l0.length : Int) := of_decide_eq_true kz4_1
                     obtain ⟨ad142, e142, hx142_0, hx142_1, hx142_2, hx142_3, hx142_4, hx142_5, hx142_6⟩ := at_T86 HR0.out (rd l1 x79_3) p142 q142
                     (try rw [← Nbq49.out] at hx142_4)
                     (try rw [← Nbq57.out] at hx142_4)
                     (try rw [← Nbq49.out] at hx142_5)
                     (try rw [← Nbq57.out] at hx142_5)
                     (try rw [← Nbq49.out] at hx142_6)
                     (try rw [← Nbq57.out] at hx142_6)
                     cases e142
                     replace hx142_0 := (HB.out.cell (World.block_lt_of_cell? w _ hx142_0)).trans hx142_0
                     replace hx142_1 := (HB.out.cell (World.block_lt_of_cell? w _ hx142_1)).trans hx142_1
                     replace hx142_2 := (HB.out.cell (World.block_lt_of_cell? w _ hx142_2)).trans hx142_2
                     replace hx142_3 := (HB.out.cell (World.block_lt_of_cell? w _ hx142_3)).trans hx142_3
                     replace hx142_4 := (HB.out.cell (World.block_lt_of_cell? w _ hx142_4)).trans hx142_4
                     replace hx142_5 := (HB.out.cell (World.block_lt_of_cell? w _ hx142_5)).trans hx142_5
                     replace hx142_6 := (HB.out.cell (World.block_lt_of_cell? w _ hx142_6)).trans hx142_6
                     replace p142 := eq_true p142
                     replace q142 := eq_true q142
                     have p144 : 0 ≤ ((rd l1 x79_3) : Int) := of_decide_eq_true kz4_1
                     have q144 : (rd l1 x79_3) < (l0.length : Int) := of_decide_eq_true kz4_1
                     obtain ⟨ad144, e144, hx144_0, hx144_1, hx144_2, hx144_3, hx144_4, hx144_5, hx144_6⟩ := at_T86 HR0.out (rd l1 x79_3) p144 q144
                     (try rw [← Nbq49.out] at hx144_4)
                     (try rw [← Nbq57.out] at hx144_4)
                     (try rw [← Nbq49.out] at hx144_5)
                     (try rw [← Nbq57.out] at hx144_5)
                     (try rw [← Nbq49.out] at hx144_6)
                     (try rw [← Nbq57.out] at hx144_6)
                     obtain rfl : ad142 = ad144 := (by injection e144)
                     replace hx144_0 := (HB.out.cell (World.block_lt_of_cell? w _ hx144_0)).trans hx144_0
                     replace hx144_1 := (HB.out.cell (World.block_lt_of_cell? w _ hx144_1)).trans hx144_1
                     replace hx144_2 := (HB.out.cell (World.block_lt_of_cell? w _ hx144_2)).trans hx144_2
                     replace hx144_3 := (HB.out.cell (World.block_lt_of_cell? w _ hx144_3)).trans hx144_3
                     replace hx144_4 := (HB.out.cell (World.block_lt_of_cell? w _ hx144_4)).trans hx144_4
                     replace hx144_5 := (HB.out.cell (World.block_lt_of_cell? w _ hx144_5)).trans hx144_5
                     replace hx144_6 := (HB.out.cell (World.block_lt_of_cell? w _ hx144_6)).trans hx144_6
                     replace p144 := eq_true p144
                     replace q144 := eq_true q144
                     go_wp2_with (first | ((with_reducible refine gate_callee (f := 85) rfl ?_); refine goesL_ (some 97) rfl rfl Try.func85 (by kernel_rfl) rfl #[.slice (some ad142) l0.length c0, .int .i64 (rd l1 x79_3)] rfl kz4_4 ?_; (with_reducible refine (tree_Inner.calls k3 _ _ l0 (rd l1 x79_3) t145 _ ?side1 ?side2 A59.out).mono ?_); (case side1 => repeat (first | exact (Kd.C_below HR0.out HB.out) | (with_reducible refine Kd.C_alloc ?_ _) | (with_reducible refine Kd.C_drewN ?_ _) | (with_reducible refine Kd.C_drew ?_))); (case side2 => exact HC0.out); rintro e w64 ⟨v146, rfl, ho0, hb⟩; refine ⟨_, rfl, ?_⟩; have n0_ := Aside0.mk (Kd.R_elder' kz4_5 (Kd.R_base ho0) hb); have n1_ := Aside0.mk (Kd.R_lower (Kd.R_new' ho0 (Kd.R_lt kz4_5)) (below_size kz4_2)); have n2_ := Aside0.mk (below_step kz4_2 hb); clear HO_5; clear HB; have HO_5 := n0_; have HO147 := n1_; have HB := n2_; clear n0_ n1_ n2_; (try clear hb); (try clear hb2); (try clear hk); (try clear hi); (try clear ho0); obtain ⟨Ao65, co65, eo65⟩ := Kd.R_slice HO147.out; subst eo65; obtain ⟨Ao66, co66, eo66⟩ := Kd.R_slice HO_5.out; subst eo66; have p148 : 0 ≤ ((ji60) : Int) := of_decide_eq_true kz4_1; have q148 : (ji60) < (x5_2.length : Int) := of_decide_eq_true kz4_1; obtain ⟨ad148, e148, hx148_0⟩ := Kd.at_int (Kd.R_reads' HO_5.out).2.2 (ji60) p148 q148; cases e148; replace p148 := eq_true p148; replace q148 := eq_true q148))
                     go_roundg k3
                     case measure => have := HJ2.out; have := HK2.out; have := HK3.out; omega
                     case rel => exact ⟨(wrap64 (x79_3 + 1)), kz4_3, H', ⟨by have := HJ2.out; have := HK2.out; have := HK3.out; omega⟩, ⟨by (with_reducible repeat (first | apply Kd.R_alloc | apply Kd.R_drewN | apply Kd.R_drew)); exact Kd.R_mono HO_5.out (fun _ hk => trivial)⟩, ⟨by repeat (first | (with_reducible first | exact HB.out | apply below_alloc | apply pw_below_drewN | apply below_drew1) | exact HB.out)⟩⟩
                    ·rw [if_neg c63] at H
                     have c63b0 : ((rd x5_2 (ji60)) == (t145.length : Int)) = false := beq_eq_false_iff_ne.mpr c63
                     have c63b1 : ((rd x5_2 (ji60)) != (t145.length : Int)) = true := bne_iff_ne.mpr c63
                     obtain rfl := Option.some.inj H
                     have p141 : 0 ≤ (x79_3 : Int) := of_decide_eq_true kz4_1
                     have q141 : x79_3 < (l1.length : Int) := of_decide_eq_true kz4_1
                     obtain ⟨ad141, e141, hx141_0⟩ := Kd.at_int HR1.out x79_3 p141 q141
                     cases e141
                     replace hx141_0 := (HB.out.cell (World.block_lt_of_cell? w _ hx141_0)).trans hx141_0
                     replace p141 := eq_true p141
                     replace q141 := eq_true q141
                     have p142 : 0 ≤ ((rd l1 x79_3) : Int) := of_decide_eq_true kz4_1
                     have q142 : (rd l1 x79_3) < (l0.length : Int) := of_decide_eq_true kz4_1
                     obtain ⟨ad142, e142, hx142_0, hx142_1, hx142_2, hx142_3, hx142_4, hx142_5, hx142_6⟩ := at_T86 HR0.out (rd l1 x79_3) p142 q142
                     (try rw [← Nbq49.out] at hx142_4)
                     (try rw [← Nbq57.out] at hx142_4)
                     (try rw [← Nbq49.out] at hx142_5)
                     (try rw [← Nbq57.out] at hx142_5)
                     (try rw [← Nbq49.out] at hx142_6)
                     (try rw [← Nbq57.out] at hx142_6)
                     cases e142
                     replace hx142_0 := (HB.out.cell (World.block_lt_of_cell? w _ hx142_0)).trans hx142_0
                     replace hx142_1 := (HB.out.cell (World.block_lt_of_cell? w _ hx142_1)).trans hx142_1
                     replace hx142_2 := (HB.out.cell (World.block_lt_of_cell? w _ hx142_2)).trans hx142_2
                     replace hx142_3 := (HB.out.cell (World.block_lt_of_cell? w _ hx142_3)).trans hx142_3
                     replace hx142_4 := (HB.out.cell (World.block_lt_of_cell? w _ hx142_4)).trans hx142_4
                     replace hx142_5 := (HB.out.cell (World.block_lt_of_cell? w _ hx142_5)).trans hx142_5
                     replace hx142_6 := (HB.out.cell (World.block_lt_of_cell? w _ hx142_6)).trans hx142_6
                     replace p142 := eq_true p142
                     replace q142 := eq_true q142
                     have p144 : 0 ≤ ((rd l1 x79_3) : Int) := of_decide_eq_true kz4_1
                     have q144 : (rd l1 x79_3) < (l0.length : Int) := of_decide_eq_true kz4_1
                     obtain ⟨ad144, e144, hx144_0, hx144_1, hx144_2, hx144_3, hx144_4, hx144_5, hx144_6⟩ := at_T86 HR0.out (rd l1 x79_3) p144 q144
                     (try rw [← Nbq49.out] at hx144_4)
                     (try rw [← Nbq57.out] at hx144_4)
                     (try rw [← Nbq49.out] at hx144_5)
                     (try rw [← Nbq57.out] at hx144_5)
                     (try rw [← Nbq49.out] at hx144_6)
                     (try rw [← Nbq57.out] at hx144_6)
                     obtain rfl : ad142 = ad144 := (by injection e144)
                     replace hx144_0 := (HB.out.cell (World.block_lt_of_cell? w _ hx144_0)).trans hx144_0
                     replace hx144_1 := (HB.out.cell (World.block_lt_of_cell? w _ hx144_1)).trans hx144_1
                     replace hx144_2 := (HB.out.cell (World.block_lt_of_cell? w _ hx144_2)).trans hx144_2
                     replace hx144_3 := (HB.out.cell (World.block_lt_of_cell? w _ hx144_3)).trans hx144_3
                     replace hx144_4 := (HB.out.cell (World.block_lt_of_cell? w _ hx144_4)).trans hx144_4
                     replace hx144_5 := (HB.out.cell (World.block_lt_of_cell? w _ hx144_5)).trans hx144_5
                     replace hx144_6 := (HB.out.cell (World.block_lt_of_cell? w _ hx144_6)).trans hx144_6
                     replace p144 := eq_true p144
                     replace q144 := eq_true q144
                     go_wp2_with (first | ((with_reducible refine gate_callee (f := 85) rfl ?_); refine goesL_ (some 97) rfl rfl Try.func85 (by kernel_rfl) rfl #[.slice (some ad142) l0.length c0, .int .i64 (rd l1 x79_3)] rfl kz4_4 ?_; (with_reducible refine (tree_Inner.calls k3 _ _ l0 (rd l1 x79_3) t145 _ ?side1 ?side2 A59.out).mono ?_); (case side1 => repeat (first | exact (Kd.C_below HR0.out HB.out) | (with_reducible refine Kd.C_alloc ?_ _) | (with_reducible refine Kd.C_drewN ?_ _) | (with_reducible refine Kd.C_drew ?_))); (case side2 => exact HC0.out); rintro e w67 ⟨v146, rfl, ho0, hb⟩; refine ⟨_, rfl, ?_⟩; have n0_ := Aside0.mk (Kd.R_elder' kz4_5 (Kd.R_base ho0) hb); have n1_ := Aside0.mk (Kd.R_lower (Kd.R_new' ho0 (Kd.R_lt kz4_5)) (below_size kz4_2)); have n2_ := Aside0.mk (below_step kz4_2 hb); clear HO_5; clear HB; have HO_5 := n0_; have HO147 := n1_; have HB := n2_; clear n0_ n1_ n2_; (try clear hb); (try clear hb2); (try clear hk); (try clear hi); (try clear ho0); obtain ⟨Ao68, co68, eo68⟩ := Kd.R_slice HO147.out; subst eo68; obtain ⟨Ao69, co69, eo69⟩ := Kd.R_slice HO_5.out; subst eo69; have p148 : 0 ≤ ((ji60) : Int) := of_decide_eq_true kz4_1; have q148 : (ji60) < (x5_2.length : Int) := of_decide_eq_true kz4_1; obtain ⟨ad148, e148, hx148_0⟩ := Kd.at_int (Kd.R_reads' HO_5.out).2.2 (ji60) p148 q148; cases e148; replace p148 := eq_true p148; replace q148 := eq_true q148))
                     go_ret
                     exact ⟨by first | rfl | (simp [errW_none, errW_some] <;> rfl) | (simp only [← hji9, ← hji60]; first | rfl | (simp [errW_none, errW_some] <;> rfl)) | (simp [*, errW_none, errW_some] <;> rfl), by repeat (first | (with_reducible first | exact HB.out | apply below_alloc | apply pw_below_drewN | apply below_drew1) | exact HB.out)⟩
                   ·rw [if_neg c62] at H
                    exact absurd H (by simp)
                  ·rw [if_neg c61] at H
                   exact absurd H (by simp)
                 ·replace c58 := Bool.eq_false_iff.mpr c58
                  subst c58
                  have H1 : (if 0 ≤ (wrap64 ((rd l1 x79_3) + 1)) then (if (wrap64 ((rd l1 x79_3) + 1)) < (x5_2.length : Int) then (if (rd x5_2 (wrap64 ((rd l1 x79_3) + 1))) = 1 then (config_Legal.l1 k3 l0 x5_2 l1 (l1.length : Int) (wrap64 (x79_3 + 1))) else (some false)) else (none)) else (none)) = some r := by rw [if_neg (show ¬ (false = true) by decide)] at H; exact H
                  clear H
                  have H := H1
                  clear H1
                  obtain ⟨ji70, hji70⟩ : ∃ j_ : Int, (wrap64 ((rd l1 x79_3) + 1)) = j_ := ⟨_, rfl⟩
                  replace H : (if 0 ≤ (ji70) then (if (ji70) < (x5_2.length : Int) then (if (rd x5_2 (ji70)) = 1 then (config_Legal.l1 k3 l0 x5_2 l1 (l1.length : Int) (wrap64 (x79_3 + 1))) else (some false)) else (none)) else (none)) = some r := by first | (rw [hji70] at H; exact H) | (simp only [hji70] at H ⊢; exact H)
                  have hji70w : (IntKind.i64.wrap ((rd l1 x79_3) + 1)) = ji70 := (i64_w _).trans hji70
                  by_cases c71 : 0 ≤ (ji70)
                  ·rw [if_pos c71] at H
                   have c71b0 : decide (0 ≤ (ji70)) = true := decide_eq_true c71
                   clear c71
                   by_cases c72 : (ji70) < (x5_2.length : Int)
                   ·rw [if_pos c72] at H
                    have c72b0 : decide ((ji70) < (x5_2.length : Int)) = true := decide_eq_true c72
                    clear c72
                    by_cases c73 : (rd x5_2 (ji70)) = 1
                    ·rw [if_pos c73] at H
                     have c73b0 : ((rd x5_2 (ji70)) == 1) = true := beq_iff_eq.mpr c73
                     have c73b1 : ((rd x5_2 (ji70)) != 1) = false := bne_eq_false_iff_eq.mpr c73
                     clear c73
                     have H' := Aside0.mk H
                     clear H
                     have p141 : 0 ≤ (x79_3 : Int) := of_decide_eq_true kz4_1
                     have q141 : x79_3 < (l1.length : Int) := of_decide_eq_true kz4_1
                     obtain ⟨ad141, e141, hx141_0⟩ := Kd.at_int HR1.out x79_3 p141 q141
                     cases e141
                     replace hx141_0 := (HB.out.cell (World.block_lt_of_cell? w _ hx141_0)).trans hx141_0
                     replace p141 := eq_true p141
                     replace q141 := eq_true q141
                     have p142 : 0 ≤ ((rd l1 x79_3) : Int) := of_decide_eq_true kz4_1
                     have q142 : (rd l1 x79_3) < (l0.length : Int) := of_decide_eq_true kz4_1
                     obtain ⟨ad142, e142, hx142_0, hx142_1, hx142_2, hx142_3, hx142_4, hx142_5, hx142_6⟩ := at_T86 HR0.out (rd l1 x79_3) p142 q142
                     (try rw [← Nbq49.out] at hx142_4)
                     (try rw [← Nbq57.out] at hx142_4)
                     (try rw [← Nbq49.out] at hx142_5)
                     (try rw [← Nbq57.out] at hx142_5)
                     (try rw [← Nbq49.out] at hx142_6)
                     (try rw [← Nbq57.out] at hx142_6)
                     cases e142
                     replace hx142_0 := (HB.out.cell (World.block_lt_of_cell? w _ hx142_0)).trans hx142_0
                     replace hx142_1 := (HB.out.cell (World.block_lt_of_cell? w _ hx142_1)).trans hx142_1
                     replace hx142_2 := (HB.out.cell (World.block_lt_of_cell? w _ hx142_2)).trans hx142_2
                     replace hx142_3 := (HB.out.cell (World.block_lt_of_cell? w _ hx142_3)).trans hx142_3
                     replace hx142_4 := (HB.out.cell (World.block_lt_of_cell? w _ hx142_4)).trans hx142_4
                     replace hx142_5 := (HB.out.cell (World.block_lt_of_cell? w _ hx142_5)).trans hx142_5
                     replace hx142_6 := (HB.out.cell (World.block_lt_of_cell? w _ hx142_6)).trans hx142_6
                     replace p142 := eq_true p142
                     replace q142 := eq_true q142
                     have p144 : 0 ≤ ((rd l1 x79_3) : Int) := of_decide_eq_true kz4_1
                     have q144 : (rd l1 x79_3) < (l0.length : Int) := of_decide_eq_true kz4_1
                     obtain ⟨ad144, e144, hx144_0, hx144_1, hx144_2, hx144_3, hx144_4, hx144_5, hx144_6⟩ := at_T86 HR0.out (rd l1 x79_3) p144 q144
                     (try rw [← Nbq49.out] at hx144_4)
                     (try rw [← Nbq57.out] at hx144_4)
                     (try rw [← Nbq49.out] at hx144_5)
                     (try rw [← Nbq57.out] at hx144_5)
                     (try rw [← Nbq49.out] at hx144_6)
                     (try rw [← Nbq57.out] at hx144_6)
                     obtain rfl : ad142 = ad144 := (by injection e144)
                     replace hx144_0 := (HB.out.cell (World.block_lt_of_cell? w _ hx144_0)).trans hx144_0
                     replace hx144_1 := (HB.out.cell (World.block_lt_of_cell? w _ hx144_1)).trans hx144_1
                     replace hx144_2 := (HB.out.cell (World.block_lt_of_cell? w _ hx144_2)).trans hx144_2
                     replace hx144_3 := (HB.out.cell (World.block_lt_of_cell? w _ hx144_3)).trans hx144_3
                     replace hx144_4 := (HB.out.cell (World.block_lt_of_cell? w _ hx144_4)).trans hx144_4
                     replace hx144_5 := (HB.out.cell (World.block_lt_of_cell? w _ hx144_5)).trans hx144_5
                     replace hx144_6 := (HB.out.cell (World.block_lt_of_cell? w _ hx144_6)).trans hx144_6
                     replace p144 := eq_true p144
                     replace q144 := eq_true q144
                     obtain ⟨Ao74, co74, eo74⟩ := Kd.R_slice HO_5.out
                     subst eo74
                     have p149 : 0 ≤ ((ji70) : Int) := of_decide_eq_true kz4_1
                     have q149 : (ji70) < (x5_2.length : Int) := of_decide_eq_true kz4_1
                     obtain ⟨ad149, e149, hx149_0⟩ := Kd.at_int (Kd.R_reads' HO_5.out).2.2 (ji70) p149 q149
                     cases e149
                     replace p149 := eq_true p149
                     replace q149 := eq_true q149
                     go_wp2
                     go_roundg k3
                     case measure => have := HJ2.out; have := HK2.out; have := HK3.out; omega
                     case rel => exact ⟨(wrap64 (x79_3 + 1)), kz4_3, H', ⟨by have := HJ2.out; have := HK2.out; have := HK3.out; omega⟩, ⟨by (with_reducible repeat (first | apply Kd.R_alloc | apply Kd.R_drewN | apply Kd.R_drew)); exact HO_5.out⟩, ⟨by repeat (first | (with_reducible first | exact HB.out | apply below_alloc | apply pw_below_drewN | apply below_drew1) | exact HB.out)⟩⟩
                    ·rw [if_neg c73] at H
                     have c73b0 : ((rd x5_2 (ji70)) == 1) = false := beq_eq_false_iff_ne.mpr c73
                     have c73b1 : ((rd x5_2 (ji70)) != 1) = true := bne_iff_ne.mpr c73
                     obtain rfl := Option.some.inj H
                     have p141 : 0 ≤ (x79_3 : Int) := of_decide_eq_true kz4_1
                     have q141 : x79_3 < (l1.length : Int) := of_decide_eq_true kz4_1
                     obtain ⟨ad141, e141, hx141_0⟩ := Kd.at_int HR1.out x79_3 p141 q141
                     cases e141
                     replace hx141_0 := (HB.out.cell (World.block_lt_of_cell? w _ hx141_0)).trans hx141_0
                     replace p141 := eq_true p141
                     replace q141 := eq_true q141
                     have p142 : 0 ≤ ((rd l1 x79_3) : Int) := of_decide_eq_true kz4_1
                     have q142 : (rd l1 x79_3) < (l0.length : Int) := of_decide_eq_true kz4_1
                     obtain ⟨ad142, e142, hx142_0, hx142_1, hx142_2, hx142_3, hx142_4, hx142_5, hx142_6⟩ := at_T86 HR0.out (rd l1 x79_3) p142 q142
                     (try rw [← Nbq49.out] at hx142_4)
                     (try rw [← Nbq57.out] at hx142_4)
                     (try rw [← Nbq49.out] at hx142_5)
                     (try rw [← Nbq57.out] at hx142_5)
                     (try rw [← Nbq49.out] at hx142_6)
                     (try rw [← Nbq57.out] at hx142_6)
                     cases e142
                     replace hx142_0 := (HB.out.cell (World.block_lt_of_cell? w _ hx142_0)).trans hx142_0
                     replace hx142_1 := (HB.out.cell (World.block_lt_of_cell? w _ hx142_1)).trans hx142_1
                     replace hx142_2 := (HB.out.cell (World.block_lt_of_cell? w _ hx142_2)).trans hx142_2
                     replace hx142_3 := (HB.out.cell (World.block_lt_of_cell? w _ hx142_3)).trans hx142_3
                     replace hx142_4 := (HB.out.cell (World.block_lt_of_cell? w _ hx142_4)).trans hx142_4
                     replace hx142_5 := (HB.out.cell (World.block_lt_of_cell? w _ hx142_5)).trans hx142_5
                     replace hx142_6 := (HB.out.cell (World.block_lt_of_cell? w _ hx142_6)).trans hx142_6
                     replace p142 := eq_true p142
                     replace q142 := eq_true q142
                     have p144 : 0 ≤ ((rd l1 x79_3) : Int) := of_decide_eq_true kz4_1
                     have q144 : (rd l1 x79_3) < (l0.length : Int) := of_decide_eq_true kz4_1
                     obtain ⟨ad144, e144, hx144_0, hx144_1, hx144_2, hx144_3, hx144_4, hx144_5, hx144_6⟩ := at_T86 HR0.out (rd l1 x79_3) p144 q144
                     (try rw [← Nbq49.out] at hx144_4)
                     (try rw [← Nbq57.out] at hx144_4)
                     (try rw [← Nbq49.out] at hx144_5)
                     (try rw [← Nbq57.out] at hx144_5)
                     (try rw [← Nbq49.out] at hx144_6)
                     (try rw [← Nbq57.out] at hx144_6)
                     obtain rfl : ad142 = ad144 := (by injection e144)
                     replace hx144_0 := (HB.out.cell (World.block_lt_of_cell? w _ hx144_0)).trans hx144_0
                     replace hx144_1 := (HB.out.cell (World.block_lt_of_cell? w _ hx144_1)).trans hx144_1
                     replace hx144_2 := (HB.out.cell (World.block_lt_of_cell? w _ hx144_2)).trans hx144_2
                     replace hx144_3 := (HB.out.cell (World.block_lt_of_cell? w _ hx144_3)).trans hx144_3
                     replace hx144_4 := (HB.out.cell (World.block_lt_of_cell? w _ hx144_4)).trans hx144_4
                     replace hx144_5 := (HB.out.cell (World.block_lt_of_cell? w _ hx144_5)).trans hx144_5
                     replace hx144_6 := (HB.out.cell (World.block_lt_of_cell? w _ hx144_6)).trans hx144_6
                     replace p144 := eq_true p144
                     replace q144 := eq_true q144
                     obtain ⟨Ao75, co75, eo75⟩ := Kd.R_slice HO_5.out
                     subst eo75
                     have p149 : 0 ≤ ((ji70) : Int) := of_decide_eq_true kz4_1
                     have q149 : (ji70) < (x5_2.length : Int) := of_decide_eq_true kz4_1
                     obtain ⟨ad149, e149, hx149_0⟩ := Kd.at_int (Kd.R_reads' HO_5.out).2.2 (ji70) p149 q149
                     cases e149
                     replace p149 := eq_true p149
                     replace q149 := eq_true q149
                     go_wp2
                     go_ret
                     exact ⟨by first | rfl | (simp [errW_none, errW_some] <;> rfl) | (simp only [← hji9, ← hji70]; first | rfl | (simp [errW_none, errW_some] <;> rfl)) | (simp [*, errW_none, errW_some] <;> rfl), by repeat (first | (with_reducible first | exact HB.out | apply below_alloc | apply pw_below_drewN | apply below_drew1) | exact HB.out)⟩
                   ·rw [if_neg c72] at H
                    exact absurd H (by simp)
                  ·rw [if_neg c71] at H
                   exact absurd H (by simp)
               ·rw [if_neg c48] at H
                exact absurd H (by simp)
              ·rw [if_neg c47] at H
               exact absurd H (by simp)
             ·rw [if_neg c46] at H
              exact absurd H (by simp)
            ·rw [if_neg c45] at H
             exact absurd H (by simp)
           ·rw [if_neg c44] at H
            have c44b0 : decide (x79_3 < (l1.length : Int)) = false := decide_eq_false c44
            clear c44
            by_cases c76 : 0 < (x5_2.length : Int)
            ·rw [if_pos c76] at H
             have c76b0 : decide (0 < (x5_2.length : Int)) = true := decide_eq_true c76
             have c76b1 : decide (0 < x5_2.length) = true := decide_eq_true (by omega)
             clear c76
             obtain rfl := Option.some.inj H
             obtain ⟨Ao77, co77, eo77⟩ := Kd.R_slice HO_5.out
             subst eo77
             have p140 : 0 ≤ (0 : Int) := (by omega)
             have q140 : 0 < (x5_2.length : Int) := of_decide_eq_true kz4_1
             obtain ⟨ad140, e140, hx140_0⟩ := Kd.at_int (Kd.R_reads' HO_5.out).2.2 0 p140 q140
             cases e140
             have qi140 : (0 < x5_2.length) = True := eq_true (by omega)
             (try rw [show ((0 : Int)).toNat = 0 from rfl] at hx140_0)
             (try rw [Addr.add_zero'] at hx140_0)
             replace p140 := eq_true p140
             replace q140 := eq_true q140
             go_wp2
             go_ret
             exact ⟨by first | rfl | (simp [errW_none, errW_some] <;> rfl) | (simp only [← hji9]; first | rfl | (simp [errW_none, errW_some] <;> rfl)) | (simp [*, errW_none, errW_some] <;> rfl), by repeat (first | (with_reducible first | exact HB.out | apply below_alloc | apply pw_below_drewN | apply below_drew1) | exact HB.out)⟩
            ·rw [if_neg c76] at H
             exact absurd H (by simp)
     ·rw [if_neg c11] at H
      exact absurd H (by simp)
    ·rw [if_neg c10] at H
     exact absurd H (by simp)

end Go.Proofs.Ytjghlomkimoeoaa.PConfigAsks
