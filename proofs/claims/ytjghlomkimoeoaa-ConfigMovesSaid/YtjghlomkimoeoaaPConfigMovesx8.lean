-- Written by fprint.py (wip), by way of the printer's functions; where they are turned, by texts of mine.
import Derived.Test.YtjghlomkimoeoaaPConfigMovesx0
import Derived.Test.YtjghlomkimoeoaaPConfigMovesx3
import Derived.Test.YtjghlomkimoeoaaPConfigMovesx5
import Derived.Test.YtjghlomkimoeoaaPConfigMovesx6
import Derived.Test.YtjghlomkimoeoaaPConfigMovesx7
namespace Go.Proofs.Ytjghlomkimoeoaa.PConfigMoves
open Go.RowKit Go.Proofs.YtjghlomkimoeoaaW.PrintWords Go.Proofs.YtjghlomkimoeoaaW.PrintLast Go.Proofs.YtjghlomkimoeoaaW.PrintMore
attribute [local go_sem] max2_int min2_int max_two min_two max_three min_three max_four min_four   -- for this text's walks alone
set_option linter.unusedVariables false
set_option linter.unusedSimpArgs false
theorem kz8_1 {p_ : Prop} (h_ : p_ := by repeat (first | (with_reducible first | exact HB.out | apply below_alloc | apply pw_below_drewN | apply below_drew1) | exact HB.out)) : p_ := h_
theorem kz8_2 {p_ : Prop} (h_ : p_ := by (try simp only [List.map_toArray, List.map_cons, List.map_nil]); first | done | rfl | (simp only [List.length_drop, List.length_take]; rfl)) : p_ := h_
theorem kz8_3 {p_ : Prop} (h_ : p_ := by (with_reducible repeat (first | apply Kd.R_alloc | apply Kd.R_drewN | apply Kd.R_drew)); exact HO_10.out) : p_ := h_
theorem kz8_4 {p_ : Prop} (h_ : p_ := by first | rfl | (simp; done) | (simp [*]; done)) : p_ := h_
theorem kz8_5 {p_ : Prop} (h_ : p_ := by (with_reducible repeat (first | apply Kd.R_alloc | apply Kd.R_drewN | apply Kd.R_drew)); exact HO_9.out) : p_ := h_
theorem kz8_6 {p_ : Prop} (h_ : p_ := by (with_reducible repeat (first | apply Kd.R_alloc | apply Kd.R_drewN | apply Kd.R_drew)); exact HO_8.out) : p_ := h_

/-! ### config_Move: function 57 -/
mutual
def config_Move.j0 : Nat → List (S86) → List Int → Int → Int → List Int → Bool → Option (List Int × List Int × List Int)
 | 0, _, _, _, _, _, _ => none
 | k + 1, x0, x1, x2, x3, x10, x22 => if x22 = true then (some (([] : List Int), ([] : List Int), ([] : List Int))) else ((tree_Meet.f k x0 x2 x3).bind fun t233 => ((config_Leave.f k x0 x1 t233).bind fun t234 => ((config_Enter.f k x0 t233 x3).bind fun t237 => (config_Move.l0 k x1 t234 t237 x10 (x0.length : Int) 0))))
def config_Move.l0 : Nat → List Int → List Int → List Int → List Int → Int → Int → Option (List Int × List Int × List Int)
 | 0, _, _, _, _, _, _ => none
 | k + 1, x1, x8, x9, x10, x36, x37 => if x37 < x36 then ((slices_Contains_int_int.f k x9 x37).bind fun t240 => (if t240 = true then (if x10.length < 17592186044416 then (config_Move.l0 k x1 x8 x9 (x10 ++ [x37]) x36 (wrap64 (x37 + 1))) else (none)) else ((slices_Contains_int_int.f k x1 x37).bind fun t244 => (if t244 = true then ((slices_Contains_int_int.f k x8 x37).bind fun t245 => (if t245 = true then (config_Move.l0 k x1 x8 x9 x10 x36 (wrap64 (x37 + 1))) else (if x10.length < 17592186044416 then (config_Move.l0 k x1 x8 x9 (x10 ++ [x37]) x36 (wrap64 (x37 + 1))) else (none)))) else (config_Move.l0 k x1 x8 x9 x10 x36 (wrap64 (x37 + 1))))))) else (some (x8, x9, x10))
end
def config_Move.f (k : Nat) (l0 : List (S86)) (l1 : List Int) (a2 : Int) (a3 : Int) : Option (List Int × List Int × List Int) := (config_formed.f k l0 a2).bind fun t231 => (if t231 = true then ((config_formed.f k l0 a3).bind fun t232 => (config_Move.j0 k l0 l1 a2 a3 ([] : List Int) (!t232))) else (config_Move.j0 k l0 l1 a2 a3 ([] : List Int) true))
theorem config_Move.mono_l : ∀ k, (∀ y0 y1 y2 y3 y4 y5, LeO (config_Move.j0 k y0 y1 y2 y3 y4 y5) (config_Move.j0 (k + 1) y0 y1 y2 y3 y4 y5)) ∧ (∀ y0 y1 y2 y3 y4 y5, LeO (config_Move.l0 k y0 y1 y2 y3 y4 y5) (config_Move.l0 (k + 1) y0 y1 y2 y3 y4 y5))
 | 0 => ⟨fun _ _ _ _ _ _ r h => by simp [config_Move.j0] at h, fun _ _ _ _ _ _ r h => by simp [config_Move.l0] at h⟩
 | k + 1 => by
  obtain ⟨ih0, ih1⟩ := config_Move.mono_l k
  refine ⟨?_, ?_⟩
  ·intro y0 y1 y2 y3 y4 y5
   unfold config_Move.j0
   repeat' first
   | (with_reducible exact ih0 _ _ _ _ _ _)
   | (with_reducible exact ih1 _ _ _ _ _ _)
   | (with_reducible exact config_Enter.mono _ _ _ _)
   | (with_reducible exact config_Leave.mono _ _ _ _)
   | (with_reducible exact config_formed.mono _ _ _)
   | (with_reducible exact slices_Contains_int_int.mono _ _ _)
   | (with_reducible exact tree_Meet.mono _ _ _ _)
   | (with_reducible exact LeO.refl _)
   | (with_reducible exact LeO.none _)
   | (with_reducible refine LeO.ite ?_ ?_)
   | (with_reducible refine LeO.bind ?_ (fun _ => ?_))
   | exact ih0 _ _ _ _ _ _
   | exact ih1 _ _ _ _ _ _
   | exact config_Enter.mono _ _ _ _
   | exact config_Leave.mono _ _ _ _
   | exact config_formed.mono _ _ _
   | exact slices_Contains_int_int.mono _ _ _
   | exact tree_Meet.mono _ _ _ _
   | exact LeO.none _
   | refine LeO.ite ?_ ?_
   | refine LeO.bind ?_ (fun _ => ?_)
  ·intro y0 y1 y2 y3 y4 y5
   unfold config_Move.l0
   repeat' first
   | (with_reducible exact ih0 _ _ _ _ _ _)
   | (with_reducible exact ih1 _ _ _ _ _ _)
   | (with_reducible exact config_Enter.mono _ _ _ _)
   | (with_reducible exact config_Leave.mono _ _ _ _)
   | (with_reducible exact config_formed.mono _ _ _)
   | (with_reducible exact slices_Contains_int_int.mono _ _ _)
   | (with_reducible exact tree_Meet.mono _ _ _ _)
   | (with_reducible exact LeO.refl _)
   | (with_reducible exact LeO.none _)
   | (with_reducible refine LeO.ite ?_ ?_)
   | (with_reducible refine LeO.bind ?_ (fun _ => ?_))
   | exact ih0 _ _ _ _ _ _
   | exact ih1 _ _ _ _ _ _
   | exact config_Enter.mono _ _ _ _
   | exact config_Leave.mono _ _ _ _
   | exact config_formed.mono _ _ _
   | exact slices_Contains_int_int.mono _ _ _
   | exact tree_Meet.mono _ _ _ _
   | exact LeO.none _
   | refine LeO.ite ?_ ?_
   | refine LeO.bind ?_ (fun _ => ?_)
theorem config_Move.mono : ∀ a0 a1 a2 a3 k, LeO (config_Move.f k a0 a1 a2 a3) (config_Move.f (k + 1) a0 a1 a2 a3) := by
 intro a0 a1 a2 a3 k
 obtain ⟨ih0, ih1⟩ := config_Move.mono_l k
 unfold config_Move.f
 repeat' first
   | (with_reducible exact ih0 _ _ _ _ _ _)
   | (with_reducible exact ih1 _ _ _ _ _ _)
   | (with_reducible exact config_Enter.mono _ _ _ _)
   | (with_reducible exact config_Leave.mono _ _ _ _)
   | (with_reducible exact config_formed.mono _ _ _)
   | (with_reducible exact slices_Contains_int_int.mono _ _ _)
   | (with_reducible exact tree_Meet.mono _ _ _ _)
   | (with_reducible exact LeO.refl _)
   | (with_reducible exact LeO.none _)
   | (with_reducible refine LeO.ite ?_ ?_)
   | (with_reducible refine LeO.bind ?_ (fun _ => ?_))
   | exact ih0 _ _ _ _ _ _
   | exact ih1 _ _ _ _ _ _
   | exact config_Enter.mono _ _ _ _
   | exact config_Leave.mono _ _ _ _
   | exact config_formed.mono _ _ _
   | exact slices_Contains_int_int.mono _ _ _
   | exact tree_Meet.mono _ _ _ _
   | exact LeO.none _
   | refine LeO.ite ?_ ?_
   | refine LeO.bind ?_ (fun _ => ?_)
set_option maxHeartbeats 8000000 in
set_option maxRecDepth 100000 in
theorem config_Move.calls (k : Nat) (A0 : Option Addr) (c0 : Nat) (l0 : List (S86)) (A1 : Option Addr) (c1 : Nat) (l1 : List Int) (a2 : Int) (a3 : Int) (r1 : List Int) (r2 : List Int) (r3 : List Int) (w : World) (hr0 : Kd.C k86 w A0 l0.length l0) (hc0 : l0.length ≤ c0) (hr1 : Kd.C (Kd.int .i64) w A1 l1.length l1) (hc1 : l1.length ≤ c1) (h : config_Move.f k l0 l1 a2 a3 = some (r1, r2, r3)) :
  Calls Try.prog 57 #[.slice A0 l0.length c0, .slice A1 l1.length c1, .int .i64 a2, .int .i64 a3] w fun e w' => ∃ v0_ v1_ v2_ : Value, e = .returned (.tuple #[v0_, v1_, v2_]) ∧ Kd.R (Kd.int .i64) 3 w' w.heap.size (fun k_ => some k_ ≠ (v1_ : Value).ownBlock ∧ some k_ ≠ (v2_ : Value).ownBlock) v0_ r1 ∧ Kd.R (Kd.int .i64) 3 w' w.heap.size (fun k_ => some k_ ≠ (v0_ : Value).ownBlock ∧ some k_ ≠ (v2_ : Value).ownBlock) v1_ r2 ∧ Kd.R (Kd.int .i64) 3 w' w.heap.size (fun k_ => some k_ ≠ (v0_ : Value).ownBlock ∧ some k_ ≠ (v1_ : Value).ownBlock) v2_ r3 ∧ Below w.heap.size w w' := by
 have HR0 := Aside0.mk hr0
 have HC0 := Aside0.mk hc0
 clear hr0 hc0
 have HR1 := Aside0.mk hr1
 have HC1 := Aside0.mk hc1
 clear hr1 hc1
 have HB := Aside0.mk (Below.refl w.heap.size w)
 have H : ((config_formed.f k l0 a2).bind fun t231 => (if t231 = true then ((config_formed.f k l0 a3).bind fun t232 => (config_Move.j0 k l0 l1 a2 a3 ([] : List Int) (!t232))) else (config_Move.j0 k l0 l1 a2 a3 ([] : List Int) true))) = some (r1, r2, r3) := h
 clear h
 have HC5 := Aside0.mk H
 clear H
 go_enter Try.func57, Try.ntmps57
 go_upto_region 1 with (fail)
 go_cut [22] (fun v22 wc => ∃ (kq : Nat) (x22_4 : Bool), v22 = .bool x22_4 ∧ Aside0 (config_Move.j0 kq l0 l1 a2 a3 ([] : List Int) x22_4 = some (r1, r2, r3)) ∧ Aside0 (kq ≤ k) ∧ Aside0 (Kd.R (Kd.int .i64) 3 wc w.heap.size (fun _ => True) (.slice none 0 0) ([] : List Int)) ∧ Aside0 (Below w.heap.size w wc))
 case first =>
  have H := HC5.out
  clear HC5
  replace H := Option.bind_eq_some_iff.mp H
  obtain ⟨t231, A60, H⟩ := H
  replace H : (if t231 = true then ((config_formed.f k l0 a3).bind fun t232 => (config_Move.j0 k l0 l1 a2 a3 ([] : List Int) (!t232))) else (config_Move.j0 k l0 l1 a2 a3 ([] : List Int) true)) = some (r1, r2, r3) := H
  have A6 := Aside0.mk A60
  clear A60
  by_cases c7 : t231 = true
  ·subst c7
   have H1 : ((config_formed.f k l0 a3).bind fun t232 => (config_Move.j0 k l0 l1 a2 a3 ([] : List Int) (!t232))) = some (r1, r2, r3) := by rw [if_pos rfl] at H; exact H
   clear H
   have H := H1
   clear H1
   replace H := Option.bind_eq_some_iff.mp H
   obtain ⟨t232, A80, H⟩ := H
   replace H : (config_Move.j0 k l0 l1 a2 a3 ([] : List Int) (!t232)) = some (r1, r2, r3) := H
   have A8 := Aside0.mk A80
   clear A80
   have H' := Aside0.mk H
   clear H
   go_wp2_with (first | ((with_reducible refine gate_callee (f := 92) rfl ?_); refine goesL_ (some 15) rfl rfl Try.func92 (by kernel_rfl) rfl #[.slice A0 l0.length c0, .int .i64 a2] rfl kz8_2 ?_; (with_reducible refine (config_formed.calls k _ _ l0 a2 true _ ?side1 ?side2 A6.out).mono ?_); (case side1 => repeat (first | exact (Kd.C_below HR0.out HB.out) | (with_reducible refine Kd.C_alloc ?_ _) | (with_reducible refine Kd.C_drewN ?_ _) | (with_reducible refine Kd.C_drew ?_))); (case side2 => exact HC0.out); rintro e w9 ⟨rfl, hb⟩; refine ⟨_, rfl, ?_⟩; have n0_ := Aside0.mk (below_step kz8_1 hb); clear HB; have HB := n0_; clear n0_; (try clear hb); (try clear hb2); (try clear hk); (try clear hi)) | (go_at_call 92; (with_reducible refine (config_formed.calls k _ _ l0 a3 t232 _ ?side1 ?side2 A8.out).mono ?_); (case side1 => repeat (first | exact (Kd.C_below HR0.out HB.out) | (with_reducible refine Kd.C_alloc ?_ _) | (with_reducible refine Kd.C_drewN ?_ _) | (with_reducible refine Kd.C_drew ?_))); (case side2 => exact HC0.out); rintro e w10 ⟨rfl, hb⟩; have n0_ := Aside0.mk (below_step kz8_1 hb); clear HB; have HB := n0_; clear n0_; (try clear hb); (try clear hb2); (try clear hk); (try clear hi)))
   go_meet
   case rel => exact ⟨_, (!t232), kz8_4, H', ⟨by first | omega | exact Nat.le_refl _⟩, ⟨by first | exact Kd.R_nil _ _ _ _ _ | exact Kd.N_nil _ _ _ _ _ | exact Kd.V_nil _ _ _ _ _ | exact Kd.Q_nil _ _ _ _ _ | exact Kd.S_nil _ _ _ _ _⟩, ⟨by repeat (first | (with_reducible first | exact HB.out | apply below_alloc | apply pw_below_drewN | apply below_drew1) | exact HB.out)⟩⟩
  ·replace c7 := Bool.eq_false_iff.mpr c7
   subst c7
   have H1 : (config_Move.j0 k l0 l1 a2 a3 ([] : List Int) true) = some (r1, r2, r3) := by rw [if_neg (show ¬ (false = true) by decide)] at H; exact H
   clear H
   have H := H1
   clear H1
   have H' := Aside0.mk H
   clear H
   go_wp2_with (first | ((with_reducible refine gate_callee (f := 92) rfl ?_); refine goesL_ (some 15) rfl rfl Try.func92 (by kernel_rfl) rfl #[.slice A0 l0.length c0, .int .i64 a2] rfl kz8_2 ?_; (with_reducible refine (config_formed.calls k _ _ l0 a2 false _ ?side1 ?side2 A6.out).mono ?_); (case side1 => repeat (first | exact (Kd.C_below HR0.out HB.out) | (with_reducible refine Kd.C_alloc ?_ _) | (with_reducible refine Kd.C_drewN ?_ _) | (with_reducible refine Kd.C_drew ?_))); (case side2 => exact HC0.out); rintro e w11 ⟨rfl, hb⟩; refine ⟨_, rfl, ?_⟩; have n0_ := Aside0.mk (below_step kz8_1 hb); clear HB; have HB := n0_; clear n0_; (try clear hb); (try clear hb2); (try clear hk); (try clear hi)))
   go_meet
   case rel => exact ⟨_, (true), kz8_4, H', ⟨by first | omega | exact Nat.le_refl _⟩, ⟨by first | exact Kd.R_nil _ _ _ _ _ | exact Kd.N_nil _ _ _ _ _ | exact Kd.V_nil _ _ _ _ _ | exact Kd.Q_nil _ _ _ _ _ | exact Kd.S_nil _ _ _ _ _⟩, ⟨by repeat (first | (with_reducible first | exact HB.out | apply below_alloc | apply pw_below_drewN | apply below_drew1) | exact HB.out)⟩⟩
 case rest =>
  clear HC5
  try clear c1
  try clear p2
  try clear c5
  try clear c7
  try clear c9
  obtain ⟨kq, x22_4, rfl, HA, HJ4, HO_10, HB⟩ := hcut
  cases kq with
  | zero => exact absurd HA.out (by simp [config_Move.j0])
  | succ kj4 =>
   have H := HA.out
   clear HA
   simp only [config_Move.j0] at H
   by_cases c12 : x22_4 = true
   ·subst c12
    have H1 : (some (([] : List Int), ([] : List Int), ([] : List Int))) = some (r1, r2, r3) := by rw [if_pos rfl] at H; exact H
    clear H
    have H := H1
    clear H1
    simp only [Option.some.injEq, Prod.mk.injEq] at H
    obtain ⟨rfl, rfl, rfl⟩ := H
    go_wp2
    go_ret3
    exact ⟨_, _, _, by first | rfl | (simp [errW_none, errW_some] <;> rfl) | (simp [*, errW_none, errW_some] <;> rfl), by first | exact Kd.R_nil _ _ _ _ _ | exact Kd.N_nil _ _ _ _ _ | exact Kd.V_nil _ _ _ _ _ | exact Kd.Q_nil _ _ _ _ _ | exact Kd.S_nil _ _ _ _ _, by first | exact Kd.R_nil _ _ _ _ _ | exact Kd.N_nil _ _ _ _ _ | exact Kd.V_nil _ _ _ _ _ | exact Kd.Q_nil _ _ _ _ _ | exact Kd.S_nil _ _ _ _ _, by first | exact Kd.R_nil _ _ _ _ _ | exact Kd.N_nil _ _ _ _ _ | exact Kd.V_nil _ _ _ _ _ | exact Kd.Q_nil _ _ _ _ _ | exact Kd.S_nil _ _ _ _ _, by repeat (first | (with_reducible first | exact HB.out | apply below_alloc | apply pw_below_drewN | apply below_drew1) | exact HB.out)⟩
   ·replace c12 := Bool.eq_false_iff.mpr c12
    subst c12
    have H1 : ((tree_Meet.f kj4 l0 a2 a3).bind fun t233 => ((config_Leave.f kj4 l0 l1 t233).bind fun t234 => ((config_Enter.f kj4 l0 t233 a3).bind fun t237 => (config_Move.l0 kj4 l1 t234 t237 ([] : List Int) (l0.length : Int) 0)))) = some (r1, r2, r3) := by rw [if_neg (show ¬ (false = true) by decide)] at H; exact H
    clear H
    have H := H1
    clear H1
    replace H := Option.bind_eq_some_iff.mp H
    obtain ⟨t233, A130, H⟩ := H
    replace H : ((config_Leave.f kj4 l0 l1 t233).bind fun t234 => ((config_Enter.f kj4 l0 t233 a3).bind fun t237 => (config_Move.l0 kj4 l1 t234 t237 ([] : List Int) (l0.length : Int) 0))) = some (r1, r2, r3) := H
    have A13 := Aside0.mk A130
    clear A130
    replace H := Option.bind_eq_some_iff.mp H
    obtain ⟨t234, A140, H⟩ := H
    replace H : ((config_Enter.f kj4 l0 t233 a3).bind fun t237 => (config_Move.l0 kj4 l1 t234 t237 ([] : List Int) (l0.length : Int) 0)) = some (r1, r2, r3) := H
    have A14 := Aside0.mk A140
    clear A140
    replace H := Option.bind_eq_some_iff.mp H
    obtain ⟨t237, A150, H⟩ := H
    replace H : (config_Move.l0 kj4 l1 t234 t237 ([] : List Int) (l0.length : Int) 0) = some (r1, r2, r3) := H
    have A15 := Aside0.mk A150
    clear A150
    have H' := Aside0.mk H
    clear H
    go_wp2_with (first | ((with_reducible refine gate_callee (f := 28) rfl ?_); refine goesL_ (some 26) rfl rfl Try.func28 (by kernel_rfl) rfl #[.slice A0 l0.length c0, .int .i64 a2, .int .i64 a3] rfl kz8_2 ?_; (with_reducible refine (tree_Meet.calls kj4 _ _ l0 a2 a3 t233 _ ?side1 ?side2 A13.out).mono ?_); (case side1 => repeat (first | exact (Kd.C_below HR0.out HB.out) | (with_reducible refine Kd.C_alloc ?_ _) | (with_reducible refine Kd.C_drewN ?_ _) | (with_reducible refine Kd.C_drew ?_))); (case side2 => exact HC0.out); rintro e w16 ⟨rfl, hb⟩; refine ⟨_, rfl, ?_⟩; have n0_ := Aside0.mk (Kd.R_below kz8_3 hb); have n1_ := Aside0.mk (below_step kz8_1 hb); clear HO_10; clear HB; have HO_10 := n0_; have HB := n1_; clear n0_ n1_; (try clear hb); (try clear hb2); (try clear hk); (try clear hi)) | ((with_reducible refine gate_callee (f := 53) rfl ?_); refine goesL_ (some 30) rfl rfl Try.func53 (by kernel_rfl) rfl #[.slice A0 l0.length c0, .slice A1 l1.length c1, .int .i64 t233] rfl kz8_2 ?_; (with_reducible refine (config_Leave.calls kj4 _ _ l0 _ _ l1 t233 t234 _ ?side1 ?side2 ?side3 ?side4 A14.out).mono ?_); (case side1 => repeat (first | exact (Kd.C_below HR0.out HB.out) | (with_reducible refine Kd.C_alloc ?_ _) | (with_reducible refine Kd.C_drewN ?_ _) | (with_reducible refine Kd.C_drew ?_))); (case side2 => exact HC0.out); (case side3 => repeat (first | exact (Kd.C_below HR1.out HB.out) | (with_reducible refine Kd.C_alloc ?_ _) | (with_reducible refine Kd.C_drewN ?_ _) | (with_reducible refine Kd.C_drew ?_))); (case side4 => exact HC1.out); rintro e w17 ⟨v235, rfl, ho0, hb⟩; refine ⟨_, rfl, ?_⟩; have n0_ := Aside0.mk (Kd.R_elder' kz8_3 (Kd.R_base ho0) hb); have n1_ := Aside0.mk (Kd.R_lower (Kd.R_new' ho0 (Kd.R_lt kz8_3)) (below_size kz8_1)); have n2_ := Aside0.mk (below_step kz8_1 hb); clear HO_10; clear HB; have HO_10 := n0_; have HO236 := n1_; have HB := n2_; clear n0_ n1_ n2_; (try clear hb); (try clear hb2); (try clear hk); (try clear hi); (try clear ho0)) | ((with_reducible refine gate_callee (f := 51) rfl ?_); refine goesL_ (some 34) rfl rfl Try.func51 (by kernel_rfl) rfl #[.slice A0 l0.length c0, .int .i64 t233, .int .i64 a3] rfl kz8_2 ?_; (with_reducible refine (config_Enter.calls kj4 _ _ l0 t233 a3 t237 _ ?side1 ?side2 A15.out).mono ?_); (case side1 => repeat (first | exact (Kd.C_below HR0.out HB.out) | (with_reducible refine Kd.C_alloc ?_ _) | (with_reducible refine Kd.C_drewN ?_ _) | (with_reducible refine Kd.C_drew ?_))); (case side2 => exact HC0.out); rintro e w18 ⟨v238, rfl, ho0, hb⟩; refine ⟨_, rfl, ?_⟩; have n0_ := Aside0.mk (Kd.R_elder' kz8_3 (Kd.R_base ho0) hb); have n1_ := Aside0.mk (Kd.R_elder' (by (with_reducible repeat (first | apply Kd.R_alloc | apply Kd.R_drewN | apply Kd.R_drew)); exact HO236.out) (Kd.R_base ho0) hb); have n2_ := Aside0.mk (Kd.R_lower (Kd.R_new' (Kd.R_new' ho0 (Kd.R_lt kz8_3)) (Kd.R_lt (by (with_reducible repeat (first | apply Kd.R_alloc | apply Kd.R_drewN | apply Kd.R_drew)); exact HO236.out))) (below_size kz8_1)); have n3_ := Aside0.mk (below_step kz8_1 hb); clear HO_10; clear HO236; clear HB; have HO_10 := n0_; have HO236 := n1_; have HO239 := n2_; have HB := n3_; clear n0_ n1_ n2_ n3_; (try clear hb); (try clear hb2); (try clear hk); (try clear hi); (try clear ho0)))
    go_loopg [10, 37] kj4 (fun kq v10 v37 w' => ∃ (x10_2 : List Int) (x37_2 : Int), v37 = .int .i64 x37_2 ∧ Aside0 (config_Move.l0 kq l1 t234 t237 x10_2 (l0.length : Int) x37_2 = some (r1, r2, r3)) ∧ Aside0 (kq ≤ kj4) ∧ Aside0 (Kd.R (Kd.int .i64) 3 w' w.heap.size (fun k_ => some k_ ≠ (v238 : Value).ownBlock ∧ some k_ ≠ (v10 : Value).ownBlock) v235 t234) ∧ Aside0 (Kd.R (Kd.int .i64) 3 w' w.heap.size (fun k_ => some k_ ≠ (v235 : Value).ownBlock ∧ some k_ ≠ (v10 : Value).ownBlock) v238 t237) ∧ Aside0 (Kd.R (Kd.int .i64) 3 w' w.heap.size (fun k_ => some k_ ≠ (v235 : Value).ownBlock ∧ some k_ ≠ (v238 : Value).ownBlock) v10 x10_2) ∧ Aside0 (Below w.heap.size w w'))
    case atStart => exact ⟨(([] : List Int)), (0), kz8_4, H', ⟨Nat.le_refl _⟩, ⟨by (with_reducible repeat (first | apply Kd.R_alloc | apply Kd.R_drewN | apply Kd.R_drew)); exact Kd.R_mono HO236.out (fun _ hk => ⟨hk.2, hk.1.2⟩)⟩, ⟨by (with_reducible repeat (first | apply Kd.R_alloc | apply Kd.R_drewN | apply Kd.R_drew)); exact Kd.R_mono HO239.out (fun _ hk => ⟨hk.2, hk.1.2⟩)⟩, ⟨by (with_reducible repeat (first | apply Kd.R_alloc | apply Kd.R_drewN | apply Kd.R_drew)); exact Kd.R_mono HO_10.out (fun _ hk => ⟨hk.1.2, hk.2⟩)⟩, ⟨by repeat (first | (with_reducible first | exact HB.out | apply below_alloc | apply pw_below_drewN | apply below_drew1) | exact HB.out)⟩⟩
    case round =>
     clear H'
     try clear c1
     try clear c2
     try clear p2
     try clear c5
     try clear c7
     try clear c9
     try clear c12
     try clear p2
     obtain ⟨x10_2, x37_2, rfl, HA, HK2, HO_8, HO_9, HO_10, HB⟩ := hrel
     cases gk with
     | zero => exact absurd HA.out (by simp [config_Move.l0])
     | succ k2 =>
      have H := HA.out
      clear HA
      simp only [config_Move.l0] at H
      by_cases c19 : x37_2 < (l0.length : Int)
      ·rw [if_pos c19] at H
       have c19b0 : decide (x37_2 < (l0.length : Int)) = true := decide_eq_true c19
       clear c19
       replace H := Option.bind_eq_some_iff.mp H
       obtain ⟨t240, A200, H⟩ := H
       replace H : (if t240 = true then (if x10_2.length < 17592186044416 then (config_Move.l0 k2 l1 t234 t237 (x10_2 ++ [x37_2]) (l0.length : Int) (wrap64 (x37_2 + 1))) else (none)) else ((slices_Contains_int_int.f k2 l1 x37_2).bind fun t244 => (if t244 = true then ((slices_Contains_int_int.f k2 t234 x37_2).bind fun t245 => (if t245 = true then (config_Move.l0 k2 l1 t234 t237 x10_2 (l0.length : Int) (wrap64 (x37_2 + 1))) else (if x10_2.length < 17592186044416 then (config_Move.l0 k2 l1 t234 t237 (x10_2 ++ [x37_2]) (l0.length : Int) (wrap64 (x37_2 + 1))) else (none)))) else (config_Move.l0 k2 l1 t234 t237 x10_2 (l0.length : Int) (wrap64 (x37_2 + 1)))))) = some (r1, r2, r3) := H
       have A20 := Aside0.mk A200
       clear A200
       by_cases c21 : t240 = true
       ·subst c21
        have H1 : (if x10_2.length < 17592186044416 then (config_Move.l0 k2 l1 t234 t237 (x10_2 ++ [x37_2]) (l0.length : Int) (wrap64 (x37_2 + 1))) else (none)) = some (r1, r2, r3) := by rw [if_pos rfl] at H; exact H
        clear H
        have H := H1
        clear H1
        by_cases c22 : x10_2.length < 17592186044416
        ·rw [if_pos c22] at H
         have LMc22 := Aside0.mk c22
         clear c22
         obtain ⟨y241, hy241⟩ : ∃ y_ : List Int, y_ = (x10_2 ++ [x37_2]) := ⟨_, rfl⟩
         replace H : (config_Move.l0 k2 l1 t234 t237 y241 (l0.length : Int) (wrap64 (x37_2 + 1))) = some (r1, r2, r3) := by first | (rw [hy241]; with_reducible exact H) | (have H2_ := (Option.bind_some _ _).symm.trans H; rw [hy241]; with_reducible exact H2_) | (have H2_ := (Option.bind_some _ _).symm.trans H; with_reducible exact H2_) | with_reducible exact H | (rw [hy241]; exact H) | exact H
         have Ny241 := Aside0.mk hy241
         clear hy241
         have H' := Aside0.mk H
         clear H
         obtain ⟨Ao23, co23, eo23⟩ := Kd.R_slice HO_9.out
         subst eo23
         go_wp2_with (first | ((with_reducible refine gate_callee (f := 84) rfl ?_); refine goesL_ (some 42) rfl rfl Try.func84 (by kernel_rfl) rfl #[.slice Ao23 t237.length co23, .int .i64 x37_2] rfl kz8_2 ?_; (with_reducible refine (slices_Contains_int_int.calls k2 _ _ t237 x37_2 true _ ?side1 ?side2 A20.out).mono ?_); (case side1 => repeat (first | exact (Kd.R_reads' HO_9.out).2.2 | (with_reducible refine Kd.C_alloc ?_ _) | (with_reducible refine Kd.C_drewN ?_ _) | (with_reducible refine Kd.C_drew ?_))); (case side2 => exact (Kd.R_reads' HO_9.out).2.1); rintro e w' ⟨rfl, ⟨nd, rfl⟩⟩; refine ⟨_, rfl, ?_⟩) | ((with_reducible refine gate_builtin (b := .append) (xs := #[.tmp 54, .tmp 56]) rfl ?_); at_builtin; refine Kd.R_append (Kd.int .i64) (w0 := w) w.heap.size rfl (.tmp 54) (.tmp 56) 65 3 (.int .i64 0) 8 rfl Try.underlying65 info3 rfl (by decide) (by omega) u10 x10_2 x37_2 [.int .i64 x37_2] (fun k_ => some k_ ≠ (v235 : Value).ownBlock ∧ some k_ ≠ (.slice Ao23 t237.length co23 : Value).ownBlock) (fun _ => False) rfl rfl ?aP (fun _ hk => hk.elim) ?aF ?aO ?aB ?aS ?aL ?_; (case aP => exact rfl); (case aB => exact kz8_1); (case aF => exact (fun k_ hk => ⟨Kd.fresh' (Kd.R_lt kz8_6) k_ hk, Kd.fresh' (Kd.R_lt kz8_5) k_ hk⟩)); (case aO => exact kz8_3); (case aS => exact (below_size kz8_1)); (case aL => have := LMc22.out; omega); intro v242 w24 ho hb hg hat; rw [← Ny241.out] at ho; have n0_ := Aside0.mk (Kd.R_after (ok := (fun k_ => some k_ ≠ (.slice Ao23 t237.length co23 : Value).ownBlock)) kz8_6 hg hat); have n1_ := Aside0.mk (Kd.R_after (ok := (fun k_ => some k_ ≠ (v235 : Value).ownBlock)) kz8_5 hg hat); have n2_ := Aside0.mk (hb); have n3_ := Aside0.mk (ho); clear HO_8; clear HO_9; clear HB; clear HO_10; have HO_8 := n0_; have HO_9 := n1_; have HB := n2_; have HO243 := n3_; clear n0_ n1_ n2_ n3_; clear ho hb hg hat))
         go_roundg k2
         case measure => have := HJ4.out; have := HK2.out; omega
         case rel => exact ⟨(y241), (wrap64 (x37_2 + 1)), kz8_4, H', ⟨by have := HJ4.out; have := HK2.out; omega⟩, ⟨by (with_reducible repeat (first | apply Kd.R_alloc | apply Kd.R_drewN | apply Kd.R_drew)); exact HO_8.out⟩, ⟨by (with_reducible repeat (first | apply Kd.R_alloc | apply Kd.R_drewN | apply Kd.R_drew)); exact HO_9.out⟩, ⟨by (with_reducible repeat (first | apply Kd.R_alloc | apply Kd.R_drewN | apply Kd.R_drew)); exact HO243.out⟩, ⟨by repeat (first | (with_reducible first | exact HB.out | apply below_alloc | apply pw_below_drewN | apply below_drew1) | exact HB.out)⟩⟩
        ·rw [if_neg c22] at H
         exact absurd H (by simp)
       ·replace c21 := Bool.eq_false_iff.mpr c21
        subst c21
        have H1 : ((slices_Contains_int_int.f k2 l1 x37_2).bind fun t244 => (if t244 = true then ((slices_Contains_int_int.f k2 t234 x37_2).bind fun t245 => (if t245 = true then (config_Move.l0 k2 l1 t234 t237 x10_2 (l0.length : Int) (wrap64 (x37_2 + 1))) else (if x10_2.length < 17592186044416 then (config_Move.l0 k2 l1 t234 t237 (x10_2 ++ [x37_2]) (l0.length : Int) (wrap64 (x37_2 + 1))) else (none)))) else (config_Move.l0 k2 l1 t234 t237 x10_2 (l0.length : Int) (wrap64 (x37_2 + 1))))) = some (r1, r2, r3) := by rw [if_neg (show ¬ (false = true) by decide)] at H; exact H
        clear H
        have H := H1
        clear H1
        replace H := Option.bind_eq_some_iff.mp H
        obtain ⟨t244, A250, H⟩ := H
        replace H : (if t244 = true then ((slices_Contains_int_int.f k2 t234 x37_2).bind fun t245 => (if t245 = true then (config_Move.l0 k2 l1 t234 t237 x10_2 (l0.length : Int) (wrap64 (x37_2 + 1))) else (if x10_2.length < 17592186044416 then (config_Move.l0 k2 l1 t234 t237 (x10_2 ++ [x37_2]) (l0.length : Int) (wrap64 (x37_2 + 1))) else (none)))) else (config_Move.l0 k2 l1 t234 t237 x10_2 (l0.length : Int) (wrap64 (x37_2 + 1)))) = some (r1, r2, r3) := H
        have A25 := Aside0.mk A250
        clear A250
        by_cases c26 : t244 = true
        ·subst c26
         have H1 : ((slices_Contains_int_int.f k2 t234 x37_2).bind fun t245 => (if t245 = true then (config_Move.l0 k2 l1 t234 t237 x10_2 (l0.length : Int) (wrap64 (x37_2 + 1))) else (if x10_2.length < 17592186044416 then (config_Move.l0 k2 l1 t234 t237 (x10_2 ++ [x37_2]) (l0.length : Int) (wrap64 (x37_2 + 1))) else (none)))) = some (r1, r2, r3) := by rw [if_pos rfl] at H; exact H
         clear H
         have H := H1
         clear H1
         replace H := Option.bind_eq_some_iff.mp H
         obtain ⟨t245, A270, H⟩ := H
         replace H : (if t245 = true then (config_Move.l0 k2 l1 t234 t237 x10_2 (l0.length : Int) (wrap64 (x37_2 + 1))) else (if x10_2.length < 17592186044416 then (config_Move.l0 k2 l1 t234 t237 (x10_2 ++ [x37_2]) (l0.length : Int) (wrap64 (x37_2 + 1))) else (none))) = some (r1, r2, r3) := H
         have A27 := Aside0.mk A270
         clear A270
         by_cases c28 : t245 = true
         ·subst c28
          have H1 : (config_Move.l0 k2 l1 t234 t237 x10_2 (l0.length : Int) (wrap64 (x37_2 + 1))) = some (r1, r2, r3) := by rw [if_pos rfl] at H; exact H
          clear H
          have H := H1
          clear H1
          have H' := Aside0.mk H
          clear H
          obtain ⟨Ao29, co29, eo29⟩ := Kd.R_slice HO_9.out
          subst eo29
          go_wp2_with (first | ((with_reducible refine gate_callee (f := 84) rfl ?_); refine goesL_ (some 42) rfl rfl Try.func84 (by kernel_rfl) rfl #[.slice Ao29 t237.length co29, .int .i64 x37_2] rfl kz8_2 ?_; (with_reducible refine (slices_Contains_int_int.calls k2 _ _ t237 x37_2 false _ ?side1 ?side2 A20.out).mono ?_); (case side1 => repeat (first | exact (Kd.R_reads' HO_9.out).2.2 | (with_reducible refine Kd.C_alloc ?_ _) | (with_reducible refine Kd.C_drewN ?_ _) | (with_reducible refine Kd.C_drew ?_))); (case side2 => exact (Kd.R_reads' HO_9.out).2.1); rintro e w' ⟨rfl, ⟨nd, rfl⟩⟩; refine ⟨_, rfl, ?_⟩) | (go_at_call 84; (with_reducible refine (slices_Contains_int_int.calls k2 _ _ l1 x37_2 true _ ?side1 ?side2 A25.out).mono ?_); (case side1 => repeat (first | exact (Kd.C_below HR1.out kz8_1) | (with_reducible refine Kd.C_alloc ?_ _) | (with_reducible refine Kd.C_drewN ?_ _) | (with_reducible refine Kd.C_drew ?_))); (case side2 => exact HC1.out); rintro e w' ⟨rfl, ⟨nd, rfl⟩⟩; obtain ⟨Ao30, co30, eo30⟩ := Kd.R_slice HO_8.out; subst eo30) | (go_at_call 84; (with_reducible refine (slices_Contains_int_int.calls k2 _ _ t234 x37_2 true _ ?side1 ?side2 A27.out).mono ?_); (case side1 => repeat (first | exact (Kd.R_reads' HO_8.out).2.2 | (with_reducible refine Kd.C_alloc ?_ _) | (with_reducible refine Kd.C_drewN ?_ _) | (with_reducible refine Kd.C_drew ?_))); (case side2 => exact (Kd.R_reads' HO_8.out).2.1); rintro e w' ⟨rfl, ⟨nd, rfl⟩⟩))
          go_roundg k2
          case measure => have := HJ4.out; have := HK2.out; omega
          case rel => exact ⟨(x10_2), (wrap64 (x37_2 + 1)), kz8_4, H', ⟨by have := HJ4.out; have := HK2.out; omega⟩, ⟨by (with_reducible repeat (first | apply Kd.R_alloc | apply Kd.R_drewN | apply Kd.R_drew)); exact HO_8.out⟩, ⟨by (with_reducible repeat (first | apply Kd.R_alloc | apply Kd.R_drewN | apply Kd.R_drew)); exact HO_9.out⟩, ⟨by (with_reducible repeat (first | apply Kd.R_alloc | apply Kd.R_drewN | apply Kd.R_drew)); exact HO_10.out⟩, ⟨by repeat (first | (with_reducible first | exact HB.out | apply below_alloc | apply pw_below_drewN | apply below_drew1) | exact HB.out)⟩⟩
         ·replace c28 := Bool.eq_false_iff.mpr c28
          subst c28
          have H1 : (if x10_2.length < 17592186044416 then (config_Move.l0 k2 l1 t234 t237 (x10_2 ++ [x37_2]) (l0.length : Int) (wrap64 (x37_2 + 1))) else (none)) = some (r1, r2, r3) := by rw [if_neg (show ¬ (false = true) by decide)] at H; exact H
          clear H
          have H := H1
          clear H1
          by_cases c31 : x10_2.length < 17592186044416
          ·rw [if_pos c31] at H
           have LMc31 := Aside0.mk c31
           clear c31
           obtain ⟨y246, hy246⟩ : ∃ y_ : List Int, y_ = (x10_2 ++ [x37_2]) := ⟨_, rfl⟩
           replace H : (config_Move.l0 k2 l1 t234 t237 y246 (l0.length : Int) (wrap64 (x37_2 + 1))) = some (r1, r2, r3) := by first | (rw [hy246]; with_reducible exact H) | (have H2_ := (Option.bind_some _ _).symm.trans H; rw [hy246]; with_reducible exact H2_) | (have H2_ := (Option.bind_some _ _).symm.trans H; with_reducible exact H2_) | with_reducible exact H | (rw [hy246]; exact H) | exact H
           have Ny246 := Aside0.mk hy246
           clear hy246
           have H' := Aside0.mk H
           clear H
           obtain ⟨Ao32, co32, eo32⟩ := Kd.R_slice HO_9.out
           subst eo32
           go_wp2_with (first | ((with_reducible refine gate_callee (f := 84) rfl ?_); refine goesL_ (some 42) rfl rfl Try.func84 (by kernel_rfl) rfl #[.slice Ao32 t237.length co32, .int .i64 x37_2] rfl kz8_2 ?_; (with_reducible refine (slices_Contains_int_int.calls k2 _ _ t237 x37_2 false _ ?side1 ?side2 A20.out).mono ?_); (case side1 => repeat (first | exact (Kd.R_reads' HO_9.out).2.2 | (with_reducible refine Kd.C_alloc ?_ _) | (with_reducible refine Kd.C_drewN ?_ _) | (with_reducible refine Kd.C_drew ?_))); (case side2 => exact (Kd.R_reads' HO_9.out).2.1); rintro e w' ⟨rfl, ⟨nd, rfl⟩⟩; refine ⟨_, rfl, ?_⟩) | (go_at_call 84; (with_reducible refine (slices_Contains_int_int.calls k2 _ _ l1 x37_2 true _ ?side1 ?side2 A25.out).mono ?_); (case side1 => repeat (first | exact (Kd.C_below HR1.out kz8_1) | (with_reducible refine Kd.C_alloc ?_ _) | (with_reducible refine Kd.C_drewN ?_ _) | (with_reducible refine Kd.C_drew ?_))); (case side2 => exact HC1.out); rintro e w' ⟨rfl, ⟨nd, rfl⟩⟩; obtain ⟨Ao33, co33, eo33⟩ := Kd.R_slice HO_8.out; subst eo33) | (go_at_call 84; (with_reducible refine (slices_Contains_int_int.calls k2 _ _ t234 x37_2 false _ ?side1 ?side2 A27.out).mono ?_); (case side1 => repeat (first | exact (Kd.R_reads' HO_8.out).2.2 | (with_reducible refine Kd.C_alloc ?_ _) | (with_reducible refine Kd.C_drewN ?_ _) | (with_reducible refine Kd.C_drew ?_))); (case side2 => exact (Kd.R_reads' HO_8.out).2.1); rintro e w' ⟨rfl, ⟨nd, rfl⟩⟩) | ((with_reducible refine gate_builtin (b := .append) (xs := #[.tmp 54, .tmp 56]) rfl ?_); at_builtin; refine Kd.R_append (Kd.int .i64) (w0 := w) w.heap.size rfl (.tmp 54) (.tmp 56) 65 3 (.int .i64 0) 8 rfl Try.underlying65 info3 rfl (by decide) (by omega) u10 x10_2 x37_2 [.int .i64 x37_2] (fun k_ => some k_ ≠ (.slice Ao33 t234.length co33 : Value).ownBlock ∧ some k_ ≠ (.slice Ao32 t237.length co32 : Value).ownBlock) (fun _ => False) rfl rfl ?aP (fun _ hk => hk.elim) ?aF ?aO ?aB ?aS ?aL ?_; (case aP => exact rfl); (case aB => exact kz8_1); (case aF => exact (fun k_ hk => ⟨Kd.fresh' (Kd.R_lt kz8_6) k_ hk, Kd.fresh' (Kd.R_lt kz8_5) k_ hk⟩)); (case aO => exact kz8_3); (case aS => exact (below_size kz8_1)); (case aL => have := LMc31.out; omega); intro v247 w34 ho hb hg hat; rw [← Ny246.out] at ho; have n0_ := Aside0.mk (Kd.R_after (ok := (fun k_ => some k_ ≠ (.slice Ao32 t237.length co32 : Value).ownBlock)) kz8_6 hg hat); have n1_ := Aside0.mk (Kd.R_after (ok := (fun k_ => some k_ ≠ (.slice Ao33 t234.length co33 : Value).ownBlock)) kz8_5 hg hat); have n2_ := Aside0.mk (hb); have n3_ := Aside0.mk (ho); clear HO_8; clear HO_9; clear HB; clear HO_10; have HO_8 := n0_; have HO_9 := n1_; have HB := n2_; have HO248 := n3_; clear n0_ n1_ n2_ n3_; clear ho hb hg hat))
           go_roundg k2
           case measure => have := HJ4.out; have := HK2.out; omega
           case rel => exact ⟨(y246), (wrap64 (x37_2 + 1)), kz8_4, H', ⟨by have := HJ4.out; have := HK2.out; omega⟩, ⟨by (with_reducible repeat (first | apply Kd.R_alloc | apply Kd.R_drewN | apply Kd.R_drew)); exact HO_8.out⟩, ⟨by (with_reducible repeat (first | apply Kd.R_alloc | apply Kd.R_drewN | apply Kd.R_drew)); exact HO_9.out⟩, ⟨by (with_reducible repeat (first | apply Kd.R_alloc | apply Kd.R_drewN | apply Kd.R_drew)); exact HO248.out⟩, ⟨by repeat (first | (with_reducible first | exact HB.out | apply below_alloc | apply pw_below_drewN | apply below_drew1) | exact HB.out)⟩⟩
          ·rw [if_neg c31] at H
           exact absurd H (by simp)
        ·replace c26 := Bool.eq_false_iff.mpr c26
         subst c26
         have H1 : (config_Move.l0 k2 l1 t234 t237 x10_2 (l0.length : Int) (wrap64 (x37_2 + 1))) = some (r1, r2, r3) := by rw [if_neg (show ¬ (false = true) by decide)] at H; exact H
         clear H
         have H := H1
         clear H1
         have H' := Aside0.mk H
         clear H
         obtain ⟨Ao35, co35, eo35⟩ := Kd.R_slice HO_9.out
         subst eo35
         go_wp2_with (first | ((with_reducible refine gate_callee (f := 84) rfl ?_); refine goesL_ (some 42) rfl rfl Try.func84 (by kernel_rfl) rfl #[.slice Ao35 t237.length co35, .int .i64 x37_2] rfl kz8_2 ?_; (with_reducible refine (slices_Contains_int_int.calls k2 _ _ t237 x37_2 false _ ?side1 ?side2 A20.out).mono ?_); (case side1 => repeat (first | exact (Kd.R_reads' HO_9.out).2.2 | (with_reducible refine Kd.C_alloc ?_ _) | (with_reducible refine Kd.C_drewN ?_ _) | (with_reducible refine Kd.C_drew ?_))); (case side2 => exact (Kd.R_reads' HO_9.out).2.1); rintro e w' ⟨rfl, ⟨nd, rfl⟩⟩; refine ⟨_, rfl, ?_⟩) | (go_at_call 84; (with_reducible refine (slices_Contains_int_int.calls k2 _ _ l1 x37_2 false _ ?side1 ?side2 A25.out).mono ?_); (case side1 => repeat (first | exact (Kd.C_below HR1.out kz8_1) | (with_reducible refine Kd.C_alloc ?_ _) | (with_reducible refine Kd.C_drewN ?_ _) | (with_reducible refine Kd.C_drew ?_))); (case side2 => exact HC1.out); rintro e w' ⟨rfl, ⟨nd, rfl⟩⟩))
         go_roundg k2
         case measure => have := HJ4.out; have := HK2.out; omega
         case rel => exact ⟨(x10_2), (wrap64 (x37_2 + 1)), kz8_4, H', ⟨by have := HJ4.out; have := HK2.out; omega⟩, ⟨by (with_reducible repeat (first | apply Kd.R_alloc | apply Kd.R_drewN | apply Kd.R_drew)); exact HO_8.out⟩, ⟨by (with_reducible repeat (first | apply Kd.R_alloc | apply Kd.R_drewN | apply Kd.R_drew)); exact HO_9.out⟩, ⟨by (with_reducible repeat (first | apply Kd.R_alloc | apply Kd.R_drewN | apply Kd.R_drew)); exact HO_10.out⟩, ⟨by repeat (first | (with_reducible first | exact HB.out | apply below_alloc | apply pw_below_drewN | apply below_drew1) | exact HB.out)⟩⟩
      ·rw [if_neg c19] at H
       have c19b0 : decide (x37_2 < (l0.length : Int)) = false := decide_eq_false c19
       clear c19
       simp only [Option.some.injEq, Prod.mk.injEq] at H
       obtain ⟨rfl, rfl, rfl⟩ := H
       go_wp2
       go_ret3
       exact ⟨_, _, _, by first | rfl | (simp [errW_none, errW_some] <;> rfl) | (simp [*, errW_none, errW_some] <;> rfl), by (with_reducible repeat (first | apply Kd.R_alloc | apply Kd.R_drewN | apply Kd.R_drew)); exact HO_8.out, by (with_reducible repeat (first | apply Kd.R_alloc | apply Kd.R_drewN | apply Kd.R_drew)); exact HO_9.out, by (with_reducible repeat (first | apply Kd.R_alloc | apply Kd.R_drewN | apply Kd.R_drew)); exact HO_10.out, by repeat (first | (with_reducible first | exact HB.out | apply below_alloc | apply pw_below_drewN | apply below_drew1) | exact HB.out)⟩

/-! ### tumbrelref09_lies: function 113 -/
mutual
def tumbrelref09_lies.l0 : Nat → List (S140) → Int → Int → Int → Option (Bool)
 | 0, _, _, _, _ => none
 | k + 1, x0, x1, x2, x7 => if x7 ≥ 0 then (tumbrelref09_lies.j1 k x0 x2 x7 (decide (x7 < x1))) else (tumbrelref09_lies.j1 k x0 x2 x7 false)
def tumbrelref09_lies.j1 : Nat → List (S140) → Int → Int → Bool → Option (Bool)
 | 0, _, _, _, _ => none
 | k + 1, x0, x2, x7, x19 => if x19 = true then (if x7 = x2 then (some true) else (if 0 ≤ x7 then (if x7 < (x0.length : Int) then (tumbrelref09_lies.l0 k x0 x7 x2 ((rd_T140 x0 x7).f1)) else (none)) else (none))) else (some false)
end
def tumbrelref09_lies.f (k : Nat) (l0 : List (S140)) (a1 : Int) (a2 : Int) : Option (Bool) := if 0 ≤ a1 then (if a1 < (l0.length : Int) then (tumbrelref09_lies.l0 k l0 a1 a2 ((rd_T140 l0 a1).f1)) else (none)) else (none)
theorem tumbrelref09_lies.mono_l : ∀ k, (∀ y0 y1 y2 y3, LeO (tumbrelref09_lies.l0 k y0 y1 y2 y3) (tumbrelref09_lies.l0 (k + 1) y0 y1 y2 y3)) ∧ (∀ y0 y1 y2 y3, LeO (tumbrelref09_lies.j1 k y0 y1 y2 y3) (tumbrelref09_lies.j1 (k + 1) y0 y1 y2 y3))
 | 0 => ⟨fun _ _ _ _ r h => by simp [tumbrelref09_lies.l0] at h, fun _ _ _ _ r h => by simp [tumbrelref09_lies.j1] at h⟩
 | k + 1 => by
  obtain ⟨ih0, ih1⟩ := tumbrelref09_lies.mono_l k
  refine ⟨?_, ?_⟩
  ·intro y0 y1 y2 y3
   unfold tumbrelref09_lies.l0
   repeat' first
   | (with_reducible exact ih0 _ _ _ _)
   | (with_reducible exact ih1 _ _ _ _)
   | (with_reducible exact LeO.refl _)
   | (with_reducible exact LeO.none _)
   | (with_reducible refine LeO.ite ?_ ?_)
   | (with_reducible refine LeO.bind ?_ (fun _ => ?_))
   | exact ih0 _ _ _ _
   | exact ih1 _ _ _ _
   | exact LeO.none _
   | refine LeO.ite ?_ ?_
   | refine LeO.bind ?_ (fun _ => ?_)
  ·intro y0 y1 y2 y3
   unfold tumbrelref09_lies.j1
   repeat' first
   | (with_reducible exact ih0 _ _ _ _)
   | (with_reducible exact ih1 _ _ _ _)
   | (with_reducible exact LeO.refl _)
   | (with_reducible exact LeO.none _)
   | (with_reducible refine LeO.ite ?_ ?_)
   | (with_reducible refine LeO.bind ?_ (fun _ => ?_))
   | exact ih0 _ _ _ _
   | exact ih1 _ _ _ _
   | exact LeO.none _
   | refine LeO.ite ?_ ?_
   | refine LeO.bind ?_ (fun _ => ?_)
theorem tumbrelref09_lies.mono : ∀ a0 a1 a2 k, LeO (tumbrelref09_lies.f k a0 a1 a2) (tumbrelref09_lies.f (k + 1) a0 a1 a2) := by
 intro a0 a1 a2 k
 obtain ⟨ih0, ih1⟩ := tumbrelref09_lies.mono_l k
 unfold tumbrelref09_lies.f
 repeat' first
   | (with_reducible exact ih0 _ _ _ _)
   | (with_reducible exact ih1 _ _ _ _)
   | (with_reducible exact LeO.refl _)
   | (with_reducible exact LeO.none _)
   | (with_reducible refine LeO.ite ?_ ?_)
   | (with_reducible refine LeO.bind ?_ (fun _ => ?_))
   | exact ih0 _ _ _ _
   | exact ih1 _ _ _ _
   | exact LeO.none _
   | refine LeO.ite ?_ ?_
   | refine LeO.bind ?_ (fun _ => ?_)
set_option maxHeartbeats 8000000 in
set_option maxRecDepth 100000 in
theorem tumbrelref09_lies.calls (k : Nat) (A0 : Option Addr) (c0 : Nat) (l0 : List (S140)) (a1 : Int) (a2 : Int) (r : Bool) (w : World) (hr0 : Kd.C k140 w A0 l0.length l0) (hc0 : l0.length ≤ c0) (h : tumbrelref09_lies.f k l0 a1 a2 = some r) :
  Calls Try.prog 113 #[.slice A0 l0.length c0, .int .i64 a1, .int .i64 a2] w fun e w' => e = .returned (.bool r) ∧ Drawn0 w w' := by
 have HR0 := Aside0.mk hr0
 have HC0 := Aside0.mk hc0
 clear hr0 hc0
 have H : (if 0 ≤ a1 then (if a1 < (l0.length : Int) then (tumbrelref09_lies.l0 k l0 a1 a2 ((rd_T140 l0 a1).f1)) else (none)) else (none)) = some r := h
 clear h
 by_cases c4 : 0 ≤ a1
 ·rw [if_pos c4] at H
  have c4b0 : decide (0 ≤ a1) = true := decide_eq_true c4
  clear c4
  by_cases c5 : a1 < (l0.length : Int)
  ·rw [if_pos c5] at H
   have c5b0 : decide (a1 < (l0.length : Int)) = true := decide_eq_true c5
   clear c5
   have H' := Aside0.mk H
   clear H
   have p249 : 0 ≤ (a1 : Int) := of_decide_eq_true (by first | (with_reducible assumption) | assumption)
   have q249 : a1 < (l0.length : Int) := of_decide_eq_true (by first | (with_reducible assumption) | assumption)
   obtain ⟨ad249, e249, hx249_0, hx249_1, hx249_2, hx249_3, hx249_4, hx249_5, hx249_6⟩ := at_T140 HR0.out a1 p249 q249
   cases e249
   replace p249 := eq_true p249
   replace q249 := eq_true q249
   go_enter Try.func113, Try.ntmps113
   go_wp2
   go_loopg [1, 7] k (fun kq v1 v7 w' => ∃ (x1_1 : Int) (x7_1 : Int), v1 = .int .i64 x1_1 ∧ v7 = .int .i64 x7_1 ∧ Aside0 (tumbrelref09_lies.l0 kq l0 x1_1 a2 x7_1 = some r) ∧ Aside0 (kq ≤ k) ∧ Drawn0 w w')
   case atStart => exact ⟨(a1), ((rd_T140 l0 a1).f1), kz8_4, kz8_4, H', ⟨Nat.le_refl _⟩, by repeat (first | exact Drawn0.refl _ | apply Drawn0.step)⟩
   case round =>
    clear H'
    try clear c1
    try clear p2
    try clear q2
    try clear hx2
    try clear c4
    try clear c4b0
    try clear c5
    try clear c5b0
    try clear hx249_0
    try clear hx249_1
    try clear hx249_2
    try clear hx249_3
    try clear hx249_4
    try clear hx249_5
    try clear hx249_6
    try clear p249
    try clear q249
    obtain ⟨x1_1, x7_1, rfl, rfl, HA, HK1, ⟨m1, rfl⟩⟩ := hrel
    cases gk with
    | zero => exact absurd HA.out (by simp [tumbrelref09_lies.l0])
    | succ k1 =>
     have H := HA.out
     clear HA
     simp only [tumbrelref09_lies.l0] at H
     have HC6 := Aside0.mk H
     clear H
     go_upto_region 2 with (fail)
     go_cut [19] (fun v19 wc => ∃ (kq : Nat) (x19_5 : Bool), v19 = .bool x19_5 ∧ Aside0 (tumbrelref09_lies.j1 kq l0 a2 x7_1 x19_5 = some r) ∧ Aside0 (kq ≤ k1) ∧ Drawn0 w wc)
     case first =>
      have H := HC6.out
      clear HC6
      by_cases c7 : x7_1 ≥ 0
      ·rw [if_pos c7] at H
       have c7b0 : decide (0 ≤ x7_1) = true := decide_eq_true c7
       clear c7
       (first | rw [c7b0] | (simp only [i64_w, i32_w]; rw [c7b0]) | skip)
       have H' := Aside0.mk H
       clear H
       go_wp2
       go_meet
       case rel => exact ⟨_, (decide (x7_1 < x1_1)), kz8_4, H', ⟨by have := HK1.out; first | omega | exact Nat.le_refl _⟩, by repeat (first | exact Drawn0.refl _ | apply Drawn0.step)⟩
      ·rw [if_neg c7] at H
       have c7b0 : decide (0 ≤ x7_1) = false := decide_eq_false c7
       clear c7
       (first | rw [c7b0] | (simp only [i64_w, i32_w]; rw [c7b0]) | skip)
       have H' := Aside0.mk H
       clear H
       go_wp2
       go_meet
       case rel => exact ⟨_, (false), kz8_4, H', ⟨by have := HK1.out; first | omega | exact Nat.le_refl _⟩, by repeat (first | exact Drawn0.refl _ | apply Drawn0.step)⟩
     case rest =>
      clear HC6
      try clear c1
      try clear p2
      try clear q2
      try clear hx2
      try clear c4
      try clear c4b0
      try clear c5
      try clear c5b0
      try clear c7
      try clear c7b0
      try clear hx249_0
      try clear hx249_1
      try clear hx249_2
      try clear hx249_3
      try clear hx249_4
      try clear hx249_5
      try clear hx249_6
      try clear p2
      try clear p249
      try clear q2
      try clear q249
      obtain ⟨kq, x19_5, rfl, HA, HJ5, ⟨mc5, rfl⟩⟩ := hcut
      cases kq with
      | zero => exact absurd HA.out (by simp [tumbrelref09_lies.j1])
      | succ kj5 =>
       have H := HA.out
       clear HA
       simp only [tumbrelref09_lies.j1] at H
       by_cases c8 : x19_5 = true
       ·subst c8
        have H1 : (if x7_1 = a2 then (some true) else (if 0 ≤ x7_1 then (if x7_1 < (l0.length : Int) then (tumbrelref09_lies.l0 kj5 l0 x7_1 a2 ((rd_T140 l0 x7_1).f1)) else (none)) else (none))) = some r := by rw [if_pos rfl] at H; exact H
        clear H
        have H := H1
        clear H1
        by_cases c9 : x7_1 = a2
        ·rw [if_pos c9] at H
         have c9b0 : (x7_1 == a2) = true := beq_iff_eq.mpr c9
         have c9b1 : (x7_1 != a2) = false := bne_eq_false_iff_eq.mpr c9
         clear c9
         obtain rfl := Option.some.inj H
         go_wp2
         go_ret
         exact ⟨by first | rfl | (simp; done) | (simp [*]; done), by repeat (first | exact Drawn0.refl _ | apply Drawn0.step)⟩
        ·rw [if_neg c9] at H
         have c9b0 : (x7_1 == a2) = false := beq_eq_false_iff_ne.mpr c9
         have c9b1 : (x7_1 != a2) = true := bne_iff_ne.mpr c9
         by_cases c10 : 0 ≤ x7_1
         ·rw [if_pos c10] at H
          have c10b0 : decide (0 ≤ x7_1) = true := decide_eq_true c10
          clear c10
          by_cases c11 : x7_1 < (l0.length : Int)
          ·rw [if_pos c11] at H
           have c11b0 : decide (x7_1 < (l0.length : Int)) = true := decide_eq_true c11
           clear c11
           have H' := Aside0.mk H
           clear H
           have p250 : 0 ≤ (x7_1 : Int) := of_decide_eq_true (by first | (with_reducible assumption) | assumption)
           have q250 : x7_1 < (l0.length : Int) := of_decide_eq_true (by first | (with_reducible assumption) | assumption)
           obtain ⟨ad250, e250, hx250_0, hx250_1, hx250_2, hx250_3, hx250_4, hx250_5, hx250_6⟩ := at_T140 HR0.out x7_1 p250 q250
           obtain rfl : ad249 = ad250 := (by injection e250)
           replace p250 := eq_true p250
           replace q250 := eq_true q250
           go_wp2
           go_roundg kj5
           case measure => have := HK1.out; have := HJ5.out; omega
           case rel => exact ⟨(x7_1), ((rd_T140 l0 x7_1).f1), kz8_4, kz8_4, H', ⟨by have := HK1.out; have := HJ5.out; omega⟩, by repeat (first | exact Drawn0.refl _ | apply Drawn0.step)⟩
          ·rw [if_neg c11] at H
           exact absurd H (by simp)
         ·rw [if_neg c10] at H
          exact absurd H (by simp)
       ·replace c8 := Bool.eq_false_iff.mpr c8
        subst c8
        have H1 : (some false) = some r := by rw [if_neg (show ¬ (false = true) by decide)] at H; exact H
        clear H
        have H := H1
        clear H1
        obtain rfl := Option.some.inj H
        go_wp2
        go_ret
        exact ⟨by first | rfl | (simp; done) | (simp [*]; done), by repeat (first | exact Drawn0.refl _ | apply Drawn0.step)⟩
  ·rw [if_neg c5] at H
   exact absurd H (by simp)
 ·rw [if_neg c4] at H
  exact absurd H (by simp)

end Go.Proofs.Ytjghlomkimoeoaa.PConfigMoves
