-- Written by fprint.py (wip), by way of the printer's functions; where they are turned, by texts of mine.
import Derived.Test.YtjghlomkimoeoaaPConfigAsksx0
import Derived.Test.YtjghlomkimoeoaaPConfigAsksx4
import Derived.Test.YtjghlomkimoeoaaPConfigAsksx5
import Derived.Test.YtjghlomkimoeoaaPConfigAsksx8
import Derived.Test.YtjghlomkimoeoaaPConfigAsksx9
import Derived.Test.YtjghlomkimoeoaaPConfigAsksx10
import Derived.Test.YtjghlomkimoeoaaPConfigAsksx12
import Derived.Test.YtjghlomkimoeoaaPConfigAsksx13
namespace Go.Proofs.Ytjghlomkimoeoaa.PConfigAsks
open Go.RowKit Go.Proofs.YtjghlomkimoeoaaW.PrintWords Go.Proofs.YtjghlomkimoeoaaW.PrintLast Go.Proofs.YtjghlomkimoeoaaW.PrintMore
attribute [local go_sem] max2_int min2_int max_two min_two max_three min_three max_four min_four   -- for this text's walks alone
set_option linter.unusedVariables false
set_option linter.unusedSimpArgs false
theorem kz14_1 {p_ : Prop} (h_ : p_ := by repeat (first | (with_reducible first | exact HB.out | apply below_alloc | apply pw_below_drewN | apply below_drew1) | exact HB.out)) : p_ := h_
theorem kz14_2 {p_ : Prop} (h_ : p_ := by (with_reducible repeat (first | apply Kd.R_alloc | apply Kd.R_drewN | apply Kd.R_drew)); exact HO380.out) : p_ := h_
theorem kz14_3 {p_ : Prop} (h_ : p_ := by (try simp only [List.map_toArray, List.map_cons, List.map_nil]); first | done | rfl | (simp only [List.length_drop, List.length_take]; rfl)) : p_ := h_
theorem kz14_4 {p_ : Prop} (h_ : p_ := by (with_reducible repeat (first | apply Kd.R_alloc | apply Kd.R_drewN | apply Kd.R_drew)); exact HO383.out) : p_ := h_
theorem kz14_5 {p_ : Prop} (h_ : p_ := by (with_reducible repeat (first | apply Kd.R_alloc | apply Kd.R_drewN | apply Kd.R_drew)); exact HO_9.out) : p_ := h_
theorem kz14_6 {p_ : Prop} (h_ : p_ := by (with_reducible repeat (first | apply Kd.R_alloc | apply Kd.R_drewN | apply Kd.R_drew)); exact HO387.out) : p_ := h_
theorem kz14_7 {p_ : Prop} (h_ : p_ := by (with_reducible repeat (first | apply Kd.R_alloc | apply Kd.R_drewN | apply Kd.R_drew)); exact HO390.out) : p_ := h_
theorem kz14_8 {p_ : Prop} (h_ : p_ := by (with_reducible repeat (first | apply Kd.R_alloc | apply Kd.R_drewN | apply Kd.R_drew)); exact HO394.out) : p_ := h_
theorem kz14_9 {p_ : Prop} (h_ : p_ := by (with_reducible repeat (first | apply Kd.R_alloc | apply Kd.R_drewN | apply Kd.R_drew)); exact HO373.out) : p_ := h_
theorem kz14_10 {p_ : Prop} (h_ : p_ := by (with_reducible repeat (first | apply Kd.R_alloc | apply Kd.R_drewN | apply Kd.R_drew)); exact HO397.out) : p_ := h_

/-! ### tumbrellaw10_ConfigAsks: function 9 -/
mutual
def tumbrellaw10_ConfigAsks.j0 : Nat → List (S140) → List Int → Int → Int → Bool → Option (Bool)
 | 0, _, _, _, _, _ => none
 | k + 1, x0, x1, x2, x3, x17 => if x17 = true then ((tumbrellaw10_awake.f k).bind fun t370 => (some t370)) else ((tumbrellaw09_Theirs.f k x0).bind fun t371 => ((config_Legal.f k t371 x1).bind fun t374 => ((tumbrelref09_Legal.f k x0 x1).bind fun t375 => (if (t374 != t375) = true then (tumbrellaw10_ConfigAsks.j1 k x0 x1 x2 x3 t371 true) else ((config_Over.f k t371 x1).bind fun t376 => ((tumbrelref09_Over.f k x0 x1).bind fun t377 => (tumbrellaw10_ConfigAsks.j1 k x0 x1 x2 x3 t371 (t376 != t377))))))))
def tumbrellaw10_ConfigAsks.j1 : Nat → List (S140) → List Int → Int → Int → List (S86) → Bool → Option (Bool)
 | 0, _, _, _, _, _, _ => none
 | k + 1, x0, x1, x2, x3, x9, x36 => if x36 = true then (some false) else ((config_Start.f k x9).bind fun t378 => ((tumbrelref09_Start.f k x0).bind fun t381 => ((tumbrelref09_Ints.f k t378 t381).bind fun t384 => (if t384 = true then ((config_Enter.f k x9 x2 x3).bind fun t385 => ((tumbrelref09_Enter.f k x0 x2 x3).bind fun t388 => ((tumbrelref09_Ints.f k t385 t388).bind fun t391 => (if t391 = true then ((config_Leave.f k x9 x1 x2).bind fun t392 => ((tumbrelref09_Leave.f k x0 x1 x2).bind fun t395 => ((tumbrelref09_Ints.f k t392 t395).bind fun t398 => (if t398 = true then ((config_Leaves.f k x9 x1).bind fun t399 => ((tumbrelref09_Leaves.f k x0 x1).bind fun t402 => ((tumbrelref09_Ints.f k t399 t402).bind fun t405 => (some t405)))) else (some false))))) else (some false))))) else (some false)))))
end
def tumbrellaw10_ConfigAsks.f (k : Nat) (l0 : List (S140)) (l1 : List Int) (a2 : Int) (a3 : Int) : Option (Bool) := (tumbrellaw10_awake.f k).bind fun t368 => (if t368 = true then ((tumbrellaw10_few.f k l0 l1).bind fun t369 => (tumbrellaw10_ConfigAsks.j0 k l0 l1 a2 a3 (!t369))) else (tumbrellaw10_ConfigAsks.j0 k l0 l1 a2 a3 true))
theorem tumbrellaw10_ConfigAsks.mono_l : ∀ k, (∀ y0 y1 y2 y3 y4, LeO (tumbrellaw10_ConfigAsks.j0 k y0 y1 y2 y3 y4) (tumbrellaw10_ConfigAsks.j0 (k + 1) y0 y1 y2 y3 y4)) ∧ (∀ y0 y1 y2 y3 y4 y5, LeO (tumbrellaw10_ConfigAsks.j1 k y0 y1 y2 y3 y4 y5) (tumbrellaw10_ConfigAsks.j1 (k + 1) y0 y1 y2 y3 y4 y5))
 | 0 => ⟨fun _ _ _ _ _ r h => by simp [tumbrellaw10_ConfigAsks.j0] at h, fun _ _ _ _ _ _ r h => by simp [tumbrellaw10_ConfigAsks.j1] at h⟩
 | k + 1 => by
  obtain ⟨ih0, ih1⟩ := tumbrellaw10_ConfigAsks.mono_l k
  refine ⟨?_, ?_⟩
  ·intro y0 y1 y2 y3 y4
   unfold tumbrellaw10_ConfigAsks.j0
   repeat' first
   | (with_reducible exact ih0 _ _ _ _ _)
   | (with_reducible exact ih1 _ _ _ _ _ _)
   | (with_reducible exact config_Enter.mono _ _ _ _)
   | (with_reducible exact config_Leave.mono _ _ _ _)
   | (with_reducible exact config_Leaves.mono _ _ _)
   | (with_reducible exact config_Legal.mono _ _ _)
   | (with_reducible exact config_Over.mono _ _ _)
   | (with_reducible exact config_Start.mono _ _)
   | (with_reducible exact tumbrellaw09_Theirs.mono _ _)
   | (with_reducible exact tumbrellaw10_awake.mono _)
   | (with_reducible exact tumbrellaw10_few.mono _ _ _)
   | (with_reducible exact tumbrelref09_Enter.mono _ _ _ _)
   | (with_reducible exact tumbrelref09_Ints.mono _ _ _)
   | (with_reducible exact tumbrelref09_Leave.mono _ _ _ _)
   | (with_reducible exact tumbrelref09_Leaves.mono _ _ _)
   | (with_reducible exact tumbrelref09_Legal.mono _ _ _)
   | (with_reducible exact tumbrelref09_Over.mono _ _ _)
   | (with_reducible exact tumbrelref09_Start.mono _ _)
   | (with_reducible exact LeO.refl _)
   | (with_reducible exact LeO.none _)
   | (with_reducible refine LeO.ite ?_ ?_)
   | (with_reducible refine LeO.bind ?_ (fun _ => ?_))
   | exact ih0 _ _ _ _ _
   | exact ih1 _ _ _ _ _ _
   | exact config_Enter.mono _ _ _ _
   | exact config_Leave.mono _ _ _ _
   | exact config_Leaves.mono _ _ _
   | exact config_Legal.mono _ _ _
   | exact config_Over.mono _ _ _
   | exact config_Start.mono _ _
   | exact tumbrellaw09_Theirs.mono _ _
   | exact tumbrellaw10_awake.mono _
   | exact tumbrellaw10_few.mono _ _ _
   | exact tumbrelref09_Enter.mono _ _ _ _
   | exact tumbrelref09_Ints.mono _ _ _
   | exact tumbrelref09_Leave.mono _ _ _ _
   | exact tumbrelref09_Leaves.mono _ _ _
   | exact tumbrelref09_Legal.mono _ _ _
   | exact tumbrelref09_Over.mono _ _ _
   | exact tumbrelref09_Start.mono _ _
   | exact LeO.none _
   | refine LeO.ite ?_ ?_
   | refine LeO.bind ?_ (fun _ => ?_)
  ·intro y0 y1 y2 y3 y4 y5
   unfold tumbrellaw10_ConfigAsks.j1
   repeat' first
   | (with_reducible exact ih0 _ _ _ _ _)
   | (with_reducible exact ih1 _ _ _ _ _ _)
   | (with_reducible exact config_Enter.mono _ _ _ _)
   | (with_reducible exact config_Leave.mono _ _ _ _)
   | (with_reducible exact config_Leaves.mono _ _ _)
   | (with_reducible exact config_Legal.mono _ _ _)
   | (with_reducible exact config_Over.mono _ _ _)
   | (with_reducible exact config_Start.mono _ _)
   | (with_reducible exact tumbrellaw09_Theirs.mono _ _)
   | (with_reducible exact tumbrellaw10_awake.mono _)
   | (with_reducible exact tumbrellaw10_few.mono _ _ _)
   | (with_reducible exact tumbrelref09_Enter.mono _ _ _ _)
   | (with_reducible exact tumbrelref09_Ints.mono _ _ _)
   | (with_reducible exact tumbrelref09_Leave.mono _ _ _ _)
   | (with_reducible exact tumbrelref09_Leaves.mono _ _ _)
   | (with_reducible exact tumbrelref09_Legal.mono _ _ _)
   | (with_reducible exact tumbrelref09_Over.mono _ _ _)
   | (with_reducible exact tumbrelref09_Start.mono _ _)
   | (with_reducible exact LeO.refl _)
   | (with_reducible exact LeO.none _)
   | (with_reducible refine LeO.ite ?_ ?_)
   | (with_reducible refine LeO.bind ?_ (fun _ => ?_))
   | exact ih0 _ _ _ _ _
   | exact ih1 _ _ _ _ _ _
   | exact config_Enter.mono _ _ _ _
   | exact config_Leave.mono _ _ _ _
   | exact config_Leaves.mono _ _ _
   | exact config_Legal.mono _ _ _
   | exact config_Over.mono _ _ _
   | exact config_Start.mono _ _
   | exact tumbrellaw09_Theirs.mono _ _
   | exact tumbrellaw10_awake.mono _
   | exact tumbrellaw10_few.mono _ _ _
   | exact tumbrelref09_Enter.mono _ _ _ _
   | exact tumbrelref09_Ints.mono _ _ _
   | exact tumbrelref09_Leave.mono _ _ _ _
   | exact tumbrelref09_Leaves.mono _ _ _
   | exact tumbrelref09_Legal.mono _ _ _
   | exact tumbrelref09_Over.mono _ _ _
   | exact tumbrelref09_Start.mono _ _
   | exact LeO.none _
   | refine LeO.ite ?_ ?_
   | refine LeO.bind ?_ (fun _ => ?_)
theorem tumbrellaw10_ConfigAsks.mono : ∀ a0 a1 a2 a3 k, LeO (tumbrellaw10_ConfigAsks.f k a0 a1 a2 a3) (tumbrellaw10_ConfigAsks.f (k + 1) a0 a1 a2 a3) := by
 intro a0 a1 a2 a3 k
 obtain ⟨ih0, ih1⟩ := tumbrellaw10_ConfigAsks.mono_l k
 unfold tumbrellaw10_ConfigAsks.f
 repeat' first
   | (with_reducible exact ih0 _ _ _ _ _)
   | (with_reducible exact ih1 _ _ _ _ _ _)
   | (with_reducible exact config_Enter.mono _ _ _ _)
   | (with_reducible exact config_Leave.mono _ _ _ _)
   | (with_reducible exact config_Leaves.mono _ _ _)
   | (with_reducible exact config_Legal.mono _ _ _)
   | (with_reducible exact config_Over.mono _ _ _)
   | (with_reducible exact config_Start.mono _ _)
   | (with_reducible exact tumbrellaw09_Theirs.mono _ _)
   | (with_reducible exact tumbrellaw10_awake.mono _)
   | (with_reducible exact tumbrellaw10_few.mono _ _ _)
   | (with_reducible exact tumbrelref09_Enter.mono _ _ _ _)
   | (with_reducible exact tumbrelref09_Ints.mono _ _ _)
   | (with_reducible exact tumbrelref09_Leave.mono _ _ _ _)
   | (with_reducible exact tumbrelref09_Leaves.mono _ _ _)
   | (with_reducible exact tumbrelref09_Legal.mono _ _ _)
   | (with_reducible exact tumbrelref09_Over.mono _ _ _)
   | (with_reducible exact tumbrelref09_Start.mono _ _)
   | (with_reducible exact LeO.refl _)
   | (with_reducible exact LeO.none _)
   | (with_reducible refine LeO.ite ?_ ?_)
   | (with_reducible refine LeO.bind ?_ (fun _ => ?_))
   | exact ih0 _ _ _ _ _
   | exact ih1 _ _ _ _ _ _
   | exact config_Enter.mono _ _ _ _
   | exact config_Leave.mono _ _ _ _
   | exact config_Leaves.mono _ _ _
   | exact config_Legal.mono _ _ _
   | exact config_Over.mono _ _ _
   | exact config_Start.mono _ _
   | exact tumbrellaw09_Theirs.mono _ _
   | exact tumbrellaw10_awake.mono _
   | exact tumbrellaw10_few.mono _ _ _
   | exact tumbrelref09_Enter.mono _ _ _ _
   | exact tumbrelref09_Ints.mono _ _ _
   | exact tumbrelref09_Leave.mono _ _ _ _
   | exact tumbrelref09_Leaves.mono _ _ _
   | exact tumbrelref09_Legal.mono _ _ _
   | exact tumbrelref09_Over.mono _ _ _
   | exact tumbrelref09_Start.mono _ _
   | exact LeO.none _
   | refine LeO.ite ?_ ?_
   | refine LeO.bind ?_ (fun _ => ?_)
set_option maxHeartbeats 8000000 in
set_option maxRecDepth 100000 in
theorem tumbrellaw10_ConfigAsks.calls (k : Nat) (A0 : Option Addr) (c0 : Nat) (l0 : List (S140)) (A1 : Option Addr) (c1 : Nat) (l1 : List Int) (a2 : Int) (a3 : Int) (r : Bool) (w : World) (hr0 : Kd.C k140 w A0 l0.length l0) (hc0 : l0.length ≤ c0) (hr1 : Kd.C (Kd.int .i64) w A1 l1.length l1) (hc1 : l1.length ≤ c1) (h : tumbrellaw10_ConfigAsks.f k l0 l1 a2 a3 = some r) :
  Calls Try.prog 9 #[.slice A0 l0.length c0, .slice A1 l1.length c1, .int .i64 a2, .int .i64 a3] w fun e w' => e = .returned (.bool r) ∧ Below w.heap.size w w' := by
 have HR0 := Aside0.mk hr0
 have HC0 := Aside0.mk hc0
 clear hr0 hc0
 have HR1 := Aside0.mk hr1
 have HC1 := Aside0.mk hc1
 clear hr1 hc1
 have HB := Aside0.mk (Below.refl w.heap.size w)
 have H : ((tumbrellaw10_awake.f k).bind fun t368 => (if t368 = true then ((tumbrellaw10_few.f k l0 l1).bind fun t369 => (tumbrellaw10_ConfigAsks.j0 k l0 l1 a2 a3 (!t369))) else (tumbrellaw10_ConfigAsks.j0 k l0 l1 a2 a3 true))) = some r := h
 clear h
 have HC5 := Aside0.mk H
 clear H
 go_enter Try.func9, Try.ntmps9
 go_upto_region 1 with (fail)
 go_cut [17] (fun v17 wc => ∃ (kq : Nat) (x17_4 : Bool), v17 = .bool x17_4 ∧ Aside0 (tumbrellaw10_ConfigAsks.j0 kq l0 l1 a2 a3 x17_4 = some r) ∧ Aside0 (kq ≤ k) ∧ Aside0 (Below w.heap.size w wc))
 case first =>
  have H := HC5.out
  clear HC5
  replace H := Option.bind_eq_some_iff.mp H
  obtain ⟨t368, A60, H⟩ := H
  replace H : (if t368 = true then ((tumbrellaw10_few.f k l0 l1).bind fun t369 => (tumbrellaw10_ConfigAsks.j0 k l0 l1 a2 a3 (!t369))) else (tumbrellaw10_ConfigAsks.j0 k l0 l1 a2 a3 true)) = some r := H
  have A6 := Aside0.mk A60
  clear A60
  by_cases c7 : t368 = true
  ·subst c7
   have H1 : ((tumbrellaw10_few.f k l0 l1).bind fun t369 => (tumbrellaw10_ConfigAsks.j0 k l0 l1 a2 a3 (!t369))) = some r := by rw [if_pos rfl] at H; exact H
   clear H
   have H := H1
   clear H1
   replace H := Option.bind_eq_some_iff.mp H
   obtain ⟨t369, A80, H⟩ := H
   replace H : (tumbrellaw10_ConfigAsks.j0 k l0 l1 a2 a3 (!t369)) = some r := H
   have A8 := Aside0.mk A80
   clear A80
   have H' := Aside0.mk H
   clear H
   go_wp2_with (first | ((with_reducible refine gate_callee (f := 41) rfl ?_); refine goesL_ (some 10) rfl rfl Try.func41 (by kernel_rfl) rfl #[] rfl kz14_3 ?_; (with_reducible refine (tumbrellaw10_awake.calls k  true _ A6.out).mono ?_); rintro e w9 ⟨rfl, hb⟩; refine ⟨_, rfl, ?_⟩; have n0_ := Aside0.mk (below_step kz14_1 hb); clear HB; have HB := n0_; clear n0_; (try clear hb); (try clear hb2); (try clear hk); (try clear hi)) | (go_at_call 42; (with_reducible refine (tumbrellaw10_few.calls k _ _ l0 _ _ l1 t369 _ ?side1 ?side2 ?side3 ?side4 A8.out).mono ?_); (case side1 => repeat (first | exact (Kd.C_below HR0.out HB.out) | (with_reducible refine Kd.C_alloc ?_ _) | (with_reducible refine Kd.C_drewN ?_ _) | (with_reducible refine Kd.C_drew ?_))); (case side2 => exact HC0.out); (case side3 => repeat (first | exact (Kd.C_below HR1.out HB.out) | (with_reducible refine Kd.C_alloc ?_ _) | (with_reducible refine Kd.C_drewN ?_ _) | (with_reducible refine Kd.C_drew ?_))); (case side4 => exact HC1.out); rintro e w' ⟨rfl, ⟨nd, rfl⟩⟩))
   go_meet
   case rel => exact ⟨_, (!t369), (by first | rfl | (simp; done) | (simp [*]; done)), H', ⟨by first | omega | exact Nat.le_refl _⟩, ⟨by repeat (first | (with_reducible first | exact HB.out | apply below_alloc | apply pw_below_drewN | apply below_drew1) | exact HB.out)⟩⟩
  ·replace c7 := Bool.eq_false_iff.mpr c7
   subst c7
   have H1 : (tumbrellaw10_ConfigAsks.j0 k l0 l1 a2 a3 true) = some r := by rw [if_neg (show ¬ (false = true) by decide)] at H; exact H
   clear H
   have H := H1
   clear H1
   have H' := Aside0.mk H
   clear H
   go_wp2_with (first | ((with_reducible refine gate_callee (f := 41) rfl ?_); refine goesL_ (some 10) rfl rfl Try.func41 (by kernel_rfl) rfl #[] rfl kz14_3 ?_; (with_reducible refine (tumbrellaw10_awake.calls k  false _ A6.out).mono ?_); rintro e w10 ⟨rfl, hb⟩; refine ⟨_, rfl, ?_⟩; have n0_ := Aside0.mk (below_step kz14_1 hb); clear HB; have HB := n0_; clear n0_; (try clear hb); (try clear hb2); (try clear hk); (try clear hi)))
   go_meet
   case rel => exact ⟨_, (true), (by first | rfl | (simp; done) | (simp [*]; done)), H', ⟨by first | omega | exact Nat.le_refl _⟩, ⟨by repeat (first | (with_reducible first | exact HB.out | apply below_alloc | apply pw_below_drewN | apply below_drew1) | exact HB.out)⟩⟩
 case rest =>
  clear HC5
  try clear c1
  try clear p2
  try clear c4
  try clear c7
  try clear c9
  obtain ⟨kq, x17_4, rfl, HA, HJ4, HB⟩ := hcut
  cases kq with
  | zero => exact absurd HA.out (by simp [tumbrellaw10_ConfigAsks.j0])
  | succ kj4 =>
   have H := HA.out
   clear HA
   simp only [tumbrellaw10_ConfigAsks.j0] at H
   by_cases c11 : x17_4 = true
   ·subst c11
    have H1 : ((tumbrellaw10_awake.f kj4).bind fun t370 => (some t370)) = some r := by rw [if_pos rfl] at H; exact H
    clear H
    have H := H1
    clear H1
    replace H := Option.bind_eq_some_iff.mp H
    obtain ⟨t370, A120, H⟩ := H
    replace H : (some t370) = some r := H
    have A12 := Aside0.mk A120
    clear A120
    obtain rfl := Option.some.inj H
    go_wp2_with (first | ((with_reducible refine gate_callee (f := 41) rfl ?_); refine goesL_ (some 18) rfl rfl Try.func41 (by kernel_rfl) rfl #[] rfl kz14_3 ?_; (with_reducible refine (tumbrellaw10_awake.calls kj4  t370 _ A12.out).mono ?_); rintro e w13 ⟨rfl, hb⟩; refine ⟨_, rfl, ?_⟩; have n0_ := Aside0.mk (below_step kz14_1 hb); clear HB; have HB := n0_; clear n0_; (try clear hb); (try clear hb2); (try clear hk); (try clear hi)))
    go_ret
    exact ⟨by first | rfl | (simp [errW_none, errW_some] <;> rfl) | (simp [*, errW_none, errW_some] <;> rfl), by repeat (first | (with_reducible first | exact HB.out | apply below_alloc | apply pw_below_drewN | apply below_drew1) | exact HB.out)⟩
   ·replace c11 := Bool.eq_false_iff.mpr c11
    subst c11
    have H1 : ((tumbrellaw09_Theirs.f kj4 l0).bind fun t371 => ((config_Legal.f kj4 t371 l1).bind fun t374 => ((tumbrelref09_Legal.f kj4 l0 l1).bind fun t375 => (if (t374 != t375) = true then (tumbrellaw10_ConfigAsks.j1 kj4 l0 l1 a2 a3 t371 true) else ((config_Over.f kj4 t371 l1).bind fun t376 => ((tumbrelref09_Over.f kj4 l0 l1).bind fun t377 => (tumbrellaw10_ConfigAsks.j1 kj4 l0 l1 a2 a3 t371 (t376 != t377)))))))) = some r := by rw [if_neg (show ¬ (false = true) by decide)] at H; exact H
    clear H
    have H := H1
    clear H1
    replace H := Option.bind_eq_some_iff.mp H
    obtain ⟨t371, A140, H⟩ := H
    replace H : ((config_Legal.f kj4 t371 l1).bind fun t374 => ((tumbrelref09_Legal.f kj4 l0 l1).bind fun t375 => (if (t374 != t375) = true then (tumbrellaw10_ConfigAsks.j1 kj4 l0 l1 a2 a3 t371 true) else ((config_Over.f kj4 t371 l1).bind fun t376 => ((tumbrelref09_Over.f kj4 l0 l1).bind fun t377 => (tumbrellaw10_ConfigAsks.j1 kj4 l0 l1 a2 a3 t371 (t376 != t377))))))) = some r := H
    have A14 := Aside0.mk A140
    clear A140
    have HC15 := Aside0.mk H
    clear H
    go_upto_region 4 with (first | ((with_reducible refine gate_callee (f := 43) rfl ?_); refine goesL_ (some 20) rfl rfl Try.func43 (by kernel_rfl) rfl #[.slice A0 l0.length c0] rfl kz14_3 ?_; (with_reducible refine (tumbrellaw09_Theirs.calls kj4 _ _ l0 t371 _ ?side1 ?side2 A14.out).mono ?_); (case side1 => repeat (first | exact (Kd.C_below HR0.out HB.out) | (with_reducible refine Kd.C_alloc ?_ _) | (with_reducible refine Kd.C_drewN ?_ _) | (with_reducible refine Kd.C_drew ?_))); (case side2 => exact HC0.out); rintro e w16 ⟨v372, rfl, ho0, hb⟩; refine ⟨_, rfl, ?_⟩; have n0_ := Aside0.mk (Kd.R_lower ho0 (below_size kz14_1)); have n1_ := Aside0.mk (below_step kz14_1 hb); clear HB; have HO373 := n0_; have HB := n1_; clear n0_ n1_; (try clear hb); (try clear hb2); (try clear hk); (try clear hi); (try clear ho0)))
    (try simp only [Act.put, List.setIfInBounds_toArray, List.set_cons_zero, List.set_cons_succ])
    go_cut [36] (fun v36 wc => ∃ (kq : Nat) (x36_14 : Bool), v36 = .bool x36_14 ∧ Aside0 (tumbrellaw10_ConfigAsks.j1 kq l0 l1 a2 a3 t371 x36_14 = some r) ∧ Aside0 (kq ≤ kj4) ∧ Aside0 (Kd.R k86 86 wc w.heap.size (fun _ => True) v372 t371) ∧ Aside0 (Below w.heap.size w wc))
    case first =>
     have H := HC15.out
     clear HC15
     replace H := Option.bind_eq_some_iff.mp H
     obtain ⟨t374, A170, H⟩ := H
     replace H : ((tumbrelref09_Legal.f kj4 l0 l1).bind fun t375 => (if (t374 != t375) = true then (tumbrellaw10_ConfigAsks.j1 kj4 l0 l1 a2 a3 t371 true) else ((config_Over.f kj4 t371 l1).bind fun t376 => ((tumbrelref09_Over.f kj4 l0 l1).bind fun t377 => (tumbrellaw10_ConfigAsks.j1 kj4 l0 l1 a2 a3 t371 (t376 != t377)))))) = some r := H
     have A17 := Aside0.mk A170
     clear A170
     replace H := Option.bind_eq_some_iff.mp H
     obtain ⟨t375, A180, H⟩ := H
     replace H : (if (t374 != t375) = true then (tumbrellaw10_ConfigAsks.j1 kj4 l0 l1 a2 a3 t371 true) else ((config_Over.f kj4 t371 l1).bind fun t376 => ((tumbrelref09_Over.f kj4 l0 l1).bind fun t377 => (tumbrellaw10_ConfigAsks.j1 kj4 l0 l1 a2 a3 t371 (t376 != t377))))) = some r := H
     have A18 := Aside0.mk A180
     clear A180
     by_cases c19 : (t374 != t375) = true
     ·rw [if_pos c19] at H
      have c19b0 : (t374 != t375) = true := c19
      (try (have c19b1 : decide (t374 = t375) = false := by simpa using c19))
      (try (have c19b2 : (t374 == t375) = false := by simpa using c19))
      (try (have c19b3 : ¬ (t374 = t375) := by simpa using c19))
      clear c19
      (first | rw [c19b0] | (simp only [i64_w, i32_w]; rw [c19b0]) | skip)
      have H' := Aside0.mk H
      clear H
      obtain ⟨Ao20, co20, eo20⟩ := Kd.R_slice HO373.out
      subst eo20
      go_wp2_with (first | ((with_reducible refine gate_callee (f := 44) rfl ?_); refine goesL_ (some 23) rfl rfl Try.func44 (by kernel_rfl) rfl #[.slice Ao20 t371.length co20, .slice A1 l1.length c1] rfl kz14_3 ?_; (with_reducible refine (config_Legal.calls kj4 _ _ t371 _ _ l1 t374 _ ?side1 ?side2 ?side3 ?side4 A17.out).mono ?_); (case side1 => repeat (first | exact (Kd.R_reads' HO373.out).2.2 | (with_reducible refine Kd.C_alloc ?_ _) | (with_reducible refine Kd.C_drewN ?_ _) | (with_reducible refine Kd.C_drew ?_))); (case side2 => exact (Kd.R_reads' HO373.out).2.1); (case side3 => repeat (first | exact (Kd.C_below HR1.out HB.out) | (with_reducible refine Kd.C_alloc ?_ _) | (with_reducible refine Kd.C_drewN ?_ _) | (with_reducible refine Kd.C_drew ?_))); (case side4 => exact HC1.out); rintro e w21 ⟨rfl, hb⟩; refine ⟨_, rfl, ?_⟩; have n0_ := Aside0.mk (Kd.R_below kz14_9 hb); have n1_ := Aside0.mk (below_step kz14_1 hb); clear HO373; clear HB; have HO373 := n0_; have HB := n1_; clear n0_ n1_; (try clear hb); (try clear hb2); (try clear hk); (try clear hi)) | ((with_reducible refine gate_callee (f := 45) rfl ?_); refine goesL_ (some 26) rfl rfl Try.func45 (by kernel_rfl) rfl #[.slice A0 l0.length c0, .slice A1 l1.length c1] rfl kz14_3 ?_; (with_reducible refine (tumbrelref09_Legal.calls kj4 _ _ l0 _ _ l1 t375 _ ?side1 ?side2 ?side3 ?side4 A18.out).mono ?_); (case side1 => repeat (first | exact (Kd.C_below HR0.out HB.out) | (with_reducible refine Kd.C_alloc ?_ _) | (with_reducible refine Kd.C_drewN ?_ _) | (with_reducible refine Kd.C_drew ?_))); (case side2 => exact HC0.out); (case side3 => repeat (first | exact (Kd.C_below HR1.out HB.out) | (with_reducible refine Kd.C_alloc ?_ _) | (with_reducible refine Kd.C_drewN ?_ _) | (with_reducible refine Kd.C_drew ?_))); (case side4 => exact HC1.out); rintro e w22 ⟨rfl, hb⟩; refine ⟨_, rfl, ?_⟩; have n0_ := Aside0.mk (Kd.R_below kz14_9 hb); have n1_ := Aside0.mk (below_step kz14_1 hb); clear HO373; clear HB; have HO373 := n0_; have HB := n1_; clear n0_ n1_; (try clear hb); (try clear hb2); (try clear hk); (try clear hi)))
      go_meet
      case rel => exact ⟨_, (true), (by first | rfl | (simp; done) | (simp [*]; done)), H', ⟨by have := HJ4.out; first | omega | exact Nat.le_refl _⟩, ⟨by (with_reducible repeat (first | apply Kd.R_alloc | apply Kd.R_drewN | apply Kd.R_drew)); exact HO373.out⟩, ⟨by repeat (first | (with_reducible first | exact HB.out | apply below_alloc | apply pw_below_drewN | apply below_drew1) | exact HB.out)⟩⟩
     ·rw [if_neg c19] at H
      have c19b0 : (t374 != t375) = false := by simpa using c19
      (try (have c19b1 : decide (t374 = t375) = true := by simpa using c19))
      (try (have c19b2 : (t374 == t375) = true := by simpa using c19))
      clear c19
      (first | rw [c19b0] | (simp only [i64_w, i32_w]; rw [c19b0]) | skip)
      replace H := Option.bind_eq_some_iff.mp H
      obtain ⟨t376, A230, H⟩ := H
      replace H : ((tumbrelref09_Over.f kj4 l0 l1).bind fun t377 => (tumbrellaw10_ConfigAsks.j1 kj4 l0 l1 a2 a3 t371 (t376 != t377))) = some r := H
      have A23 := Aside0.mk A230
      clear A230
      replace H := Option.bind_eq_some_iff.mp H
      obtain ⟨t377, A240, H⟩ := H
      replace H : (tumbrellaw10_ConfigAsks.j1 kj4 l0 l1 a2 a3 t371 (t376 != t377)) = some r := H
      have A24 := Aside0.mk A240
      clear A240
      have H' := Aside0.mk H
      clear H
      obtain ⟨Ao25, co25, eo25⟩ := Kd.R_slice HO373.out
      subst eo25
      go_wp2_with (first | ((with_reducible refine gate_callee (f := 44) rfl ?_); refine goesL_ (some 23) rfl rfl Try.func44 (by kernel_rfl) rfl #[.slice Ao25 t371.length co25, .slice A1 l1.length c1] rfl kz14_3 ?_; (with_reducible refine (config_Legal.calls kj4 _ _ t371 _ _ l1 t374 _ ?side1 ?side2 ?side3 ?side4 A17.out).mono ?_); (case side1 => repeat (first | exact (Kd.R_reads' HO373.out).2.2 | (with_reducible refine Kd.C_alloc ?_ _) | (with_reducible refine Kd.C_drewN ?_ _) | (with_reducible refine Kd.C_drew ?_))); (case side2 => exact (Kd.R_reads' HO373.out).2.1); (case side3 => repeat (first | exact (Kd.C_below HR1.out HB.out) | (with_reducible refine Kd.C_alloc ?_ _) | (with_reducible refine Kd.C_drewN ?_ _) | (with_reducible refine Kd.C_drew ?_))); (case side4 => exact HC1.out); rintro e w26 ⟨rfl, hb⟩; refine ⟨_, rfl, ?_⟩; have n0_ := Aside0.mk (Kd.R_below kz14_9 hb); have n1_ := Aside0.mk (below_step kz14_1 hb); clear HO373; clear HB; have HO373 := n0_; have HB := n1_; clear n0_ n1_; (try clear hb); (try clear hb2); (try clear hk); (try clear hi)) | ((with_reducible refine gate_callee (f := 45) rfl ?_); refine goesL_ (some 26) rfl rfl Try.func45 (by kernel_rfl) rfl #[.slice A0 l0.length c0, .slice A1 l1.length c1] rfl kz14_3 ?_; (with_reducible refine (tumbrelref09_Legal.calls kj4 _ _ l0 _ _ l1 t375 _ ?side1 ?side2 ?side3 ?side4 A18.out).mono ?_); (case side1 => repeat (first | exact (Kd.C_below HR0.out HB.out) | (with_reducible refine Kd.C_alloc ?_ _) | (with_reducible refine Kd.C_drewN ?_ _) | (with_reducible refine Kd.C_drew ?_))); (case side2 => exact HC0.out); (case side3 => repeat (first | exact (Kd.C_below HR1.out HB.out) | (with_reducible refine Kd.C_alloc ?_ _) | (with_reducible refine Kd.C_drewN ?_ _) | (with_reducible refine Kd.C_drew ?_))); (case side4 => exact HC1.out); rintro e w27 ⟨rfl, hb⟩; refine ⟨_, rfl, ?_⟩; have n0_ := Aside0.mk (Kd.R_below kz14_9 hb); have n1_ := Aside0.mk (below_step kz14_1 hb); clear HO373; clear HB; have HO373 := n0_; have HB := n1_; clear n0_ n1_; (try clear hb); (try clear hb2); (try clear hk); (try clear hi)) | (go_at_call 46; (with_reducible refine (config_Over.calls kj4 _ _ t371 _ _ l1 t376 _ ?side1 ?side2 ?side3 ?side4 A23.out).mono ?_); (case side1 => repeat (first | exact (Kd.R_reads' HO373.out).2.2 | (with_reducible refine Kd.C_alloc ?_ _) | (with_reducible refine Kd.C_drewN ?_ _) | (with_reducible refine Kd.C_drew ?_))); (case side2 => exact (Kd.R_reads' HO373.out).2.1); (case side3 => repeat (first | exact (Kd.C_below HR1.out HB.out) | (with_reducible refine Kd.C_alloc ?_ _) | (with_reducible refine Kd.C_drewN ?_ _) | (with_reducible refine Kd.C_drew ?_))); (case side4 => exact HC1.out); rintro e w28 ⟨rfl, hb⟩; have n0_ := Aside0.mk (Kd.R_below kz14_9 hb); have n1_ := Aside0.mk (below_step kz14_1 hb); clear HO373; clear HB; have HO373 := n0_; have HB := n1_; clear n0_ n1_; (try clear hb); (try clear hb2); (try clear hk); (try clear hi)) | (go_at_call 47; (with_reducible refine (tumbrelref09_Over.calls kj4 _ _ l0 _ _ l1 t377 _ ?side1 ?side2 ?side3 ?side4 A24.out).mono ?_); (case side1 => repeat (first | exact (Kd.C_below HR0.out HB.out) | (with_reducible refine Kd.C_alloc ?_ _) | (with_reducible refine Kd.C_drewN ?_ _) | (with_reducible refine Kd.C_drew ?_))); (case side2 => exact HC0.out); (case side3 => repeat (first | exact (Kd.C_below HR1.out HB.out) | (with_reducible refine Kd.C_alloc ?_ _) | (with_reducible refine Kd.C_drewN ?_ _) | (with_reducible refine Kd.C_drew ?_))); (case side4 => exact HC1.out); rintro e w29 ⟨rfl, hb⟩; have n0_ := Aside0.mk (Kd.R_below kz14_9 hb); have n1_ := Aside0.mk (below_step kz14_1 hb); clear HO373; clear HB; have HO373 := n0_; have HB := n1_; clear n0_ n1_; (try clear hb); (try clear hb2); (try clear hk); (try clear hi)))
      go_meet
      case rel => exact ⟨_, ((t376 != t377)), (by first | rfl | (simp; done) | (simp [*]; done)), H', ⟨by have := HJ4.out; first | omega | exact Nat.le_refl _⟩, ⟨by (with_reducible repeat (first | apply Kd.R_alloc | apply Kd.R_drewN | apply Kd.R_drew)); exact HO373.out⟩, ⟨by repeat (first | (with_reducible first | exact HB.out | apply below_alloc | apply pw_below_drewN | apply below_drew1) | exact HB.out)⟩⟩
    case rest =>
     clear HC15
     try clear c1
     try clear p2
     try clear c4
     try clear c7
     try clear c9
     try clear c11
     try clear c19
     try clear c19b0
     try clear c19b1
     try clear c19b2
     try clear p2
     obtain ⟨kq, x36_14, rfl, HA, HJ14, HO_9, HB⟩ := hcut
     cases kq with
     | zero => exact absurd HA.out (by simp [tumbrellaw10_ConfigAsks.j1])
     | succ kj14 =>
      have H := HA.out
      clear HA
      simp only [tumbrellaw10_ConfigAsks.j1] at H
      by_cases c30 : x36_14 = true
      ·subst c30
       have H1 : (some false) = some r := by rw [if_pos rfl] at H; exact H
       clear H
       have H := H1
       clear H1
       obtain rfl := Option.some.inj H
       go_wp2
       go_ret
       exact ⟨by first | rfl | (simp [errW_none, errW_some] <;> rfl) | (simp [*, errW_none, errW_some] <;> rfl), by repeat (first | (with_reducible first | exact HB.out | apply below_alloc | apply pw_below_drewN | apply below_drew1) | exact HB.out)⟩
      ·replace c30 := Bool.eq_false_iff.mpr c30
       subst c30
       have H1 : ((config_Start.f kj14 t371).bind fun t378 => ((tumbrelref09_Start.f kj14 l0).bind fun t381 => ((tumbrelref09_Ints.f kj14 t378 t381).bind fun t384 => (if t384 = true then ((config_Enter.f kj14 t371 a2 a3).bind fun t385 => ((tumbrelref09_Enter.f kj14 l0 a2 a3).bind fun t388 => ((tumbrelref09_Ints.f kj14 t385 t388).bind fun t391 => (if t391 = true then ((config_Leave.f kj14 t371 l1 a2).bind fun t392 => ((tumbrelref09_Leave.f kj14 l0 l1 a2).bind fun t395 => ((tumbrelref09_Ints.f kj14 t392 t395).bind fun t398 => (if t398 = true then ((config_Leaves.f kj14 t371 l1).bind fun t399 => ((tumbrelref09_Leaves.f kj14 l0 l1).bind fun t402 => ((tumbrelref09_Ints.f kj14 t399 t402).bind fun t405 => (some t405)))) else (some false))))) else (some false))))) else (some false))))) = some r := by rw [if_neg (show ¬ (false = true) by decide)] at H; exact H
       clear H
       have H := H1
       clear H1
       replace H := Option.bind_eq_some_iff.mp H
       obtain ⟨t378, A310, H⟩ := H
       replace H : ((tumbrelref09_Start.f kj14 l0).bind fun t381 => ((tumbrelref09_Ints.f kj14 t378 t381).bind fun t384 => (if t384 = true then ((config_Enter.f kj14 t371 a2 a3).bind fun t385 => ((tumbrelref09_Enter.f kj14 l0 a2 a3).bind fun t388 => ((tumbrelref09_Ints.f kj14 t385 t388).bind fun t391 => (if t391 = true then ((config_Leave.f kj14 t371 l1 a2).bind fun t392 => ((tumbrelref09_Leave.f kj14 l0 l1 a2).bind fun t395 => ((tumbrelref09_Ints.f kj14 t392 t395).bind fun t398 => (if t398 = true then ((config_Leaves.f kj14 t371 l1).bind fun t399 => ((tumbrelref09_Leaves.f kj14 l0 l1).bind fun t402 => ((tumbrelref09_Ints.f kj14 t399 t402).bind fun t405 => (some t405)))) else (some false))))) else (some false))))) else (some false)))) = some r := H
       have A31 := Aside0.mk A310
       clear A310
       replace H := Option.bind_eq_some_iff.mp H
       obtain ⟨t381, A320, H⟩ := H
       replace H : ((tumbrelref09_Ints.f kj14 t378 t381).bind fun t384 => (if t384 = true then ((config_Enter.f kj14 t371 a2 a3).bind fun t385 => ((tumbrelref09_Enter.f kj14 l0 a2 a3).bind fun t388 => ((tumbrelref09_Ints.f kj14 t385 t388).bind fun t391 => (if t391 = true then ((config_Leave.f kj14 t371 l1 a2).bind fun t392 => ((tumbrelref09_Leave.f kj14 l0 l1 a2).bind fun t395 => ((tumbrelref09_Ints.f kj14 t392 t395).bind fun t398 => (if t398 = true then ((config_Leaves.f kj14 t371 l1).bind fun t399 => ((tumbrelref09_Leaves.f kj14 l0 l1).bind fun t402 => ((tumbrelref09_Ints.f kj14 t399 t402).bind fun t405 => (some t405)))) else (some false))))) else (some false))))) else (some false))) = some r := H
       have A32 := Aside0.mk A320
       clear A320
       replace H := Option.bind_eq_some_iff.mp H
       obtain ⟨t384, A330, H⟩ := H
       replace H : (if t384 = true then ((config_Enter.f kj14 t371 a2 a3).bind fun t385 => ((tumbrelref09_Enter.f kj14 l0 a2 a3).bind fun t388 => ((tumbrelref09_Ints.f kj14 t385 t388).bind fun t391 => (if t391 = true then ((config_Leave.f kj14 t371 l1 a2).bind fun t392 => ((tumbrelref09_Leave.f kj14 l0 l1 a2).bind fun t395 => ((tumbrelref09_Ints.f kj14 t392 t395).bind fun t398 => (if t398 = true then ((config_Leaves.f kj14 t371 l1).bind fun t399 => ((tumbrelref09_Leaves.f kj14 l0 l1).bind fun t402 => ((tumbrelref09_Ints.f kj14 t399 t402).bind fun t405 => (some t405)))) else (some false))))) else (some false))))) else (some false)) = some r := H
       have A33 := Aside0.mk A330
       clear A330
       by_cases c34 : t384 = true
       ·subst c34
        have H1 : ((config_Enter.f kj14 t371 a2 a3).bind fun t385 => ((tumbrelref09_Enter.f kj14 l0 a2 a3).bind fun t388 => ((tumbrelref09_Ints.f kj14 t385 t388).bind fun t391 => (if t391 = true then ((config_Leave.f kj14 t371 l1 a2).bind fun t392 => ((tumbrelref09_Leave.f kj14 l0 l1 a2).bind fun t395 => ((tumbrelref09_Ints.f kj14 t392 t395).bind fun t398 => (if t398 = true then ((config_Leaves.f kj14 t371 l1).bind fun t399 => ((tumbrelref09_Leaves.f kj14 l0 l1).bind fun t402 => ((tumbrelref09_Ints.f kj14 t399 t402).bind fun t405 => (some t405)))) else (some false))))) else (some false))))) = some r := by rw [if_pos rfl] at H; exact H
        clear H
        have H := H1
        clear H1
        replace H := Option.bind_eq_some_iff.mp H
        obtain ⟨t385, A350, H⟩ := H
        replace H : ((tumbrelref09_Enter.f kj14 l0 a2 a3).bind fun t388 => ((tumbrelref09_Ints.f kj14 t385 t388).bind fun t391 => (if t391 = true then ((config_Leave.f kj14 t371 l1 a2).bind fun t392 => ((tumbrelref09_Leave.f kj14 l0 l1 a2).bind fun t395 => ((tumbrelref09_Ints.f kj14 t392 t395).bind fun t398 => (if t398 = true then ((config_Leaves.f kj14 t371 l1).bind fun t399 => ((tumbrelref09_Leaves.f kj14 l0 l1).bind fun t402 => ((tumbrelref09_Ints.f kj14 t399 t402).bind fun t405 => (some t405)))) else (some false))))) else (some false)))) = some r := H
        have A35 := Aside0.mk A350
        clear A350
        replace H := Option.bind_eq_some_iff.mp H
        obtain ⟨t388, A360, H⟩ := H
        replace H : ((tumbrelref09_Ints.f kj14 t385 t388).bind fun t391 => (if t391 = true then ((config_Leave.f kj14 t371 l1 a2).bind fun t392 => ((tumbrelref09_Leave.f kj14 l0 l1 a2).bind fun t395 => ((tumbrelref09_Ints.f kj14 t392 t395).bind fun t398 => (if t398 = true then ((config_Leaves.f kj14 t371 l1).bind fun t399 => ((tumbrelref09_Leaves.f kj14 l0 l1).bind fun t402 => ((tumbrelref09_Ints.f kj14 t399 t402).bind fun t405 => (some t405)))) else (some false))))) else (some false))) = some r := H
        have A36 := Aside0.mk A360
        clear A360
        replace H := Option.bind_eq_some_iff.mp H
        obtain ⟨t391, A370, H⟩ := H
        replace H : (if t391 = true then ((config_Leave.f kj14 t371 l1 a2).bind fun t392 => ((tumbrelref09_Leave.f kj14 l0 l1 a2).bind fun t395 => ((tumbrelref09_Ints.f kj14 t392 t395).bind fun t398 => (if t398 = true then ((config_Leaves.f kj14 t371 l1).bind fun t399 => ((tumbrelref09_Leaves.f kj14 l0 l1).bind fun t402 => ((tumbrelref09_Ints.f kj14 t399 t402).bind fun t405 => (some t405)))) else (some false))))) else (some false)) = some r := H
        have A37 := Aside0.mk A370
        clear A370
        by_cases c38 : t391 = true
        ·subst c38
         have H1 : ((config_Leave.f kj14 t371 l1 a2).bind fun t392 => ((tumbrelref09_Leave.f kj14 l0 l1 a2).bind fun t395 => ((tumbrelref09_Ints.f kj14 t392 t395).bind fun t398 => (if t398 = true then ((config_Leaves.f kj14 t371 l1).bind fun t399 => ((tumbrelref09_Leaves.f kj14 l0 l1).bind fun t402 => ((tumbrelref09_Ints.f kj14 t399 t402).bind fun t405 => (some t405)))) else (some false))))) = some r := by rw [if_pos rfl] at H; exact H
         clear H
         have H := H1
         clear H1
         replace H := Option.bind_eq_some_iff.mp H
         obtain ⟨t392, A390, H⟩ := H
         replace H : ((tumbrelref09_Leave.f kj14 l0 l1 a2).bind fun t395 => ((tumbrelref09_Ints.f kj14 t392 t395).bind fun t398 => (if t398 = true then ((config_Leaves.f kj14 t371 l1).bind fun t399 => ((tumbrelref09_Leaves.f kj14 l0 l1).bind fun t402 => ((tumbrelref09_Ints.f kj14 t399 t402).bind fun t405 => (some t405)))) else (some false)))) = some r := H
         have A39 := Aside0.mk A390
         clear A390
         replace H := Option.bind_eq_some_iff.mp H
         obtain ⟨t395, A400, H⟩ := H
         replace H : ((tumbrelref09_Ints.f kj14 t392 t395).bind fun t398 => (if t398 = true then ((config_Leaves.f kj14 t371 l1).bind fun t399 => ((tumbrelref09_Leaves.f kj14 l0 l1).bind fun t402 => ((tumbrelref09_Ints.f kj14 t399 t402).bind fun t405 => (some t405)))) else (some false))) = some r := H
         have A40 := Aside0.mk A400
         clear A400
         replace H := Option.bind_eq_some_iff.mp H
         obtain ⟨t398, A410, H⟩ := H
         replace H : (if t398 = true then ((config_Leaves.f kj14 t371 l1).bind fun t399 => ((tumbrelref09_Leaves.f kj14 l0 l1).bind fun t402 => ((tumbrelref09_Ints.f kj14 t399 t402).bind fun t405 => (some t405)))) else (some false)) = some r := H
         have A41 := Aside0.mk A410
         clear A410
         by_cases c42 : t398 = true
         ·subst c42
          have H1 : ((config_Leaves.f kj14 t371 l1).bind fun t399 => ((tumbrelref09_Leaves.f kj14 l0 l1).bind fun t402 => ((tumbrelref09_Ints.f kj14 t399 t402).bind fun t405 => (some t405)))) = some r := by rw [if_pos rfl] at H; exact H
          clear H
          have H := H1
          clear H1
          replace H := Option.bind_eq_some_iff.mp H
          obtain ⟨t399, A430, H⟩ := H
          replace H : ((tumbrelref09_Leaves.f kj14 l0 l1).bind fun t402 => ((tumbrelref09_Ints.f kj14 t399 t402).bind fun t405 => (some t405))) = some r := H
          have A43 := Aside0.mk A430
          clear A430
          replace H := Option.bind_eq_some_iff.mp H
          obtain ⟨t402, A440, H⟩ := H
          replace H : ((tumbrelref09_Ints.f kj14 t399 t402).bind fun t405 => (some t405)) = some r := H
          have A44 := Aside0.mk A440
          clear A440
          replace H := Option.bind_eq_some_iff.mp H
          obtain ⟨t405, A450, H⟩ := H
          replace H : (some t405) = some r := H
          have A45 := Aside0.mk A450
          clear A450
          obtain rfl := Option.some.inj H
          obtain ⟨Ao46, co46, eo46⟩ := Kd.R_slice HO_9.out
          subst eo46
          go_wp2_with (first | ((with_reducible refine gate_callee (f := 49) rfl ?_); refine goesL_ (some 38) rfl rfl Try.func49 (by kernel_rfl) rfl #[.slice Ao46 t371.length co46] rfl kz14_3 ?_; (with_reducible refine (config_Start.calls kj14 _ _ t371 t378 _ ?side1 ?side2 A31.out).mono ?_); (case side1 => repeat (first | exact (Kd.R_reads' HO_9.out).2.2 | (with_reducible refine Kd.C_alloc ?_ _) | (with_reducible refine Kd.C_drewN ?_ _) | (with_reducible refine Kd.C_drew ?_))); (case side2 => exact (Kd.R_reads' HO_9.out).2.1); rintro e w47 ⟨v379, rfl, ho0, hb⟩; refine ⟨_, rfl, ?_⟩; have n0_ := Aside0.mk (Kd.R_below kz14_5 hb); have n1_ := Aside0.mk (Kd.R_lower ho0 (below_size kz14_1)); have n2_ := Aside0.mk (below_step kz14_1 hb); clear HO_9; clear HB; have HO_9 := n0_; have HO380 := n1_; have HB := n2_; clear n0_ n1_ n2_; (try clear hb); (try clear hb2); (try clear hk); (try clear hi); (try clear ho0)) | ((with_reducible refine gate_callee (f := 50) rfl ?_); refine goesL_ (some 40) rfl rfl Try.func50 (by kernel_rfl) rfl #[.slice A0 l0.length c0] rfl kz14_3 ?_; (with_reducible refine (tumbrelref09_Start.calls kj14 _ _ l0 t381 _ ?side1 ?side2 A32.out).mono ?_); (case side1 => repeat (first | exact (Kd.C_below HR0.out HB.out) | (with_reducible refine Kd.C_alloc ?_ _) | (with_reducible refine Kd.C_drewN ?_ _) | (with_reducible refine Kd.C_drew ?_))); (case side2 => exact HC0.out); rintro e w48 ⟨v382, rfl, ho0, hb⟩; refine ⟨_, rfl, ?_⟩; have n0_ := Aside0.mk (Kd.R_below kz14_5 hb); have n1_ := Aside0.mk (Kd.R_elder' kz14_2 (Kd.R_base ho0) hb); have n2_ := Aside0.mk (Kd.R_lower (Kd.R_new' ho0 (Kd.R_lt kz14_2)) (below_size kz14_1)); have n3_ := Aside0.mk (below_step kz14_1 hb); clear HO_9; clear HO380; clear HB; have HO_9 := n0_; have HO380 := n1_; have HO383 := n2_; have HB := n3_; clear n0_ n1_ n2_ n3_; (try clear hb); (try clear hb2); (try clear hk); (try clear hi); (try clear ho0); obtain ⟨Ao49, co49, eo49⟩ := Kd.R_slice HO380.out; subst eo49; obtain ⟨Ao50, co50, eo50⟩ := Kd.R_slice HO383.out; subst eo50) | ((with_reducible refine gate_callee (f := 48) rfl ?_); refine goesL_ (some 41) rfl rfl Try.func48 (by kernel_rfl) rfl #[.slice Ao49 t378.length co49, .slice Ao50 t381.length co50] rfl kz14_3 ?_; (with_reducible refine (tumbrelref09_Ints.calls kj14 _ _ t378 _ _ t381 true _ ?side1 ?side2 ?side3 ?side4 A33.out).mono ?_); (case side1 => repeat (first | exact (Kd.R_reads' HO380.out).2.2 | (with_reducible refine Kd.C_alloc ?_ _) | (with_reducible refine Kd.C_drewN ?_ _) | (with_reducible refine Kd.C_drew ?_))); (case side2 => exact (Kd.R_reads' HO380.out).2.1); (case side3 => repeat (first | exact (Kd.R_reads' HO383.out).2.2 | (with_reducible refine Kd.C_alloc ?_ _) | (with_reducible refine Kd.C_drewN ?_ _) | (with_reducible refine Kd.C_drew ?_))); (case side4 => exact (Kd.R_reads' HO383.out).2.1); rintro e w' ⟨rfl, ⟨nd, rfl⟩⟩; refine ⟨_, rfl, ?_⟩) | (go_at_call 51; (with_reducible refine (config_Enter.calls kj14 _ _ t371 a2 a3 t385 _ ?side1 ?side2 A35.out).mono ?_); (case side1 => repeat (first | exact (Kd.R_reads' HO_9.out).2.2 | (with_reducible refine Kd.C_alloc ?_ _) | (with_reducible refine Kd.C_drewN ?_ _) | (with_reducible refine Kd.C_drew ?_))); (case side2 => exact (Kd.R_reads' HO_9.out).2.1); rintro e w51 ⟨v386, rfl, ho0, hb⟩; have n0_ := Aside0.mk (Kd.R_below kz14_5 hb); have n1_ := Aside0.mk (Kd.R_elder' kz14_2 (Kd.R_base ho0) hb); have n2_ := Aside0.mk (Kd.R_elder' kz14_4 (Kd.R_base ho0) hb); have n3_ := Aside0.mk (Kd.R_lower (Kd.R_new' (Kd.R_new' ho0 (Kd.R_lt kz14_2)) (Kd.R_lt kz14_4)) (below_size kz14_1)); have n4_ := Aside0.mk (below_step kz14_1 hb); clear HO_9; clear HO380; clear HO383; clear HB; have HO_9 := n0_; have HO380 := n1_; have HO383 := n2_; have HO387 := n3_; have HB := n4_; clear n0_ n1_ n2_ n3_ n4_; (try clear hb); (try clear hb2); (try clear hk); (try clear hi); (try clear ho0)) | (go_at_call 52; (with_reducible refine (tumbrelref09_Enter.calls kj14 _ _ l0 a2 a3 t388 _ ?side1 ?side2 A36.out).mono ?_); (case side1 => repeat (first | exact (Kd.C_below HR0.out HB.out) | (with_reducible refine Kd.C_alloc ?_ _) | (with_reducible refine Kd.C_drewN ?_ _) | (with_reducible refine Kd.C_drew ?_))); (case side2 => exact HC0.out); rintro e w52 ⟨v389, rfl, ho0, hb⟩; have n0_ := Aside0.mk (Kd.R_below kz14_5 hb); have n1_ := Aside0.mk (Kd.R_elder' kz14_2 (Kd.R_base ho0) hb); have n2_ := Aside0.mk (Kd.R_elder' kz14_4 (Kd.R_base ho0) hb); have n3_ := Aside0.mk (Kd.R_elder' kz14_6 (Kd.R_base ho0) hb); have n4_ := Aside0.mk (Kd.R_lower (Kd.R_new' (Kd.R_new' (Kd.R_new' ho0 (Kd.R_lt kz14_2)) (Kd.R_lt kz14_4)) (Kd.R_lt kz14_6)) (below_size kz14_1)); have n5_ := Aside0.mk (below_step kz14_1 hb); clear HO_9; clear HO380; clear HO383; clear HO387; clear HB; have HO_9 := n0_; have HO380 := n1_; have HO383 := n2_; have HO387 := n3_; have HO390 := n4_; have HB := n5_; clear n0_ n1_ n2_ n3_ n4_ n5_; (try clear hb); (try clear hb2); (try clear hk); (try clear hi); (try clear ho0); obtain ⟨Ao53, co53, eo53⟩ := Kd.R_slice HO387.out; subst eo53; obtain ⟨Ao54, co54, eo54⟩ := Kd.R_slice HO390.out; subst eo54) | (go_at_call 48; (with_reducible refine (tumbrelref09_Ints.calls kj14 _ _ t385 _ _ t388 true _ ?side1 ?side2 ?side3 ?side4 A37.out).mono ?_); (case side1 => repeat (first | exact (Kd.R_reads' HO387.out).2.2 | (with_reducible refine Kd.C_alloc ?_ _) | (with_reducible refine Kd.C_drewN ?_ _) | (with_reducible refine Kd.C_drew ?_))); (case side2 => exact (Kd.R_reads' HO387.out).2.1); (case side3 => repeat (first | exact (Kd.R_reads' HO390.out).2.2 | (with_reducible refine Kd.C_alloc ?_ _) | (with_reducible refine Kd.C_drewN ?_ _) | (with_reducible refine Kd.C_drew ?_))); (case side4 => exact (Kd.R_reads' HO390.out).2.1); rintro e w' ⟨rfl, ⟨nd, rfl⟩⟩) | (go_at_call 53; (with_reducible refine (config_Leave.calls kj14 _ _ t371 _ _ l1 a2 t392 _ ?side1 ?side2 ?side3 ?side4 A39.out).mono ?_); (case side1 => repeat (first | exact (Kd.R_reads' HO_9.out).2.2 | (with_reducible refine Kd.C_alloc ?_ _) | (with_reducible refine Kd.C_drewN ?_ _) | (with_reducible refine Kd.C_drew ?_))); (case side2 => exact (Kd.R_reads' HO_9.out).2.1); (case side3 => repeat (first | exact (Kd.C_below HR1.out kz14_1) | (with_reducible refine Kd.C_alloc ?_ _) | (with_reducible refine Kd.C_drewN ?_ _) | (with_reducible refine Kd.C_drew ?_))); (case side4 => exact HC1.out); rintro e w55 ⟨v393, rfl, ho0, hb⟩; have n0_ := Aside0.mk (Kd.R_below kz14_5 hb); have n1_ := Aside0.mk (Kd.R_elder' kz14_2 (Kd.R_base ho0) hb); have n2_ := Aside0.mk (Kd.R_elder' kz14_4 (Kd.R_base ho0) hb); have n3_ := Aside0.mk (Kd.R_elder' kz14_6 (Kd.R_base ho0) hb); have n4_ := Aside0.mk (Kd.R_elder' kz14_7 (Kd.R_base ho0) hb); have n5_ := Aside0.mk (Kd.R_lower (Kd.R_new' (Kd.R_new' (Kd.R_new' (Kd.R_new' ho0 (Kd.R_lt kz14_2)) (Kd.R_lt kz14_4)) (Kd.R_lt kz14_6)) (Kd.R_lt kz14_7)) (below_size kz14_1)); have n6_ := Aside0.mk (below_step kz14_1 hb); clear HO_9; clear HO380; clear HO383; clear HO387; clear HO390; clear HB; have HO_9 := n0_; have HO380 := n1_; have HO383 := n2_; have HO387 := n3_; have HO390 := n4_; have HO394 := n5_; have HB := n6_; clear n0_ n1_ n2_ n3_ n4_ n5_ n6_; (try clear hb); (try clear hb2); (try clear hk); (try clear hi); (try clear ho0)) | (go_at_call 54; (with_reducible refine (tumbrelref09_Leave.calls kj14 _ _ l0 _ _ l1 a2 t395 _ ?side1 ?side2 ?side3 ?side4 A40.out).mono ?_); (case side1 => repeat (first | exact (Kd.C_below HR0.out HB.out) | (with_reducible refine Kd.C_alloc ?_ _) | (with_reducible refine Kd.C_drewN ?_ _) | (with_reducible refine Kd.C_drew ?_))); (case side2 => exact HC0.out); (case side3 => repeat (first | exact (Kd.C_below HR1.out HB.out) | (with_reducible refine Kd.C_alloc ?_ _) | (with_reducible refine Kd.C_drewN ?_ _) | (with_reducible refine Kd.C_drew ?_))); (case side4 => exact HC1.out); rintro e w56 ⟨v396, rfl, ho0, hb⟩; have n0_ := Aside0.mk (Kd.R_below kz14_5 hb); have n1_ := Aside0.mk (Kd.R_elder' kz14_2 (Kd.R_base ho0) hb); have n2_ := Aside0.mk (Kd.R_elder' kz14_4 (Kd.R_base ho0) hb); have n3_ := Aside0.mk (Kd.R_elder' kz14_6 (Kd.R_base ho0) hb); have n4_ := Aside0.mk (Kd.R_elder' kz14_7 (Kd.R_base ho0) hb); have n5_ := Aside0.mk (Kd.R_elder' kz14_8 (Kd.R_base ho0) hb); have n6_ := Aside0.mk (Kd.R_lower (Kd.R_new' (Kd.R_new' (Kd.R_new' (Kd.R_new' (Kd.R_new' ho0 (Kd.R_lt kz14_2)) (Kd.R_lt kz14_4)) (Kd.R_lt kz14_6)) (Kd.R_lt kz14_7)) (Kd.R_lt kz14_8)) (below_size kz14_1)); have n7_ := Aside0.mk (below_step kz14_1 hb); clear HO_9; clear HO380; clear HO383; clear HO387; clear HO390; clear HO394; clear HB; have HO_9 := n0_; have HO380 := n1_; have HO383 := n2_; have HO387 := n3_; have HO390 := n4_; have HO394 := n5_; have HO397 := n6_; have HB := n7_; clear n0_ n1_ n2_ n3_ n4_ n5_ n6_ n7_; (try clear hb); (try clear hb2); (try clear hk); (try clear hi); (try clear ho0); obtain ⟨Ao57, co57, eo57⟩ := Kd.R_slice HO394.out; subst eo57; obtain ⟨Ao58, co58, eo58⟩ := Kd.R_slice HO397.out; subst eo58) | (go_at_call 48; (with_reducible refine (tumbrelref09_Ints.calls kj14 _ _ t392 _ _ t395 true _ ?side1 ?side2 ?side3 ?side4 A41.out).mono ?_); (case side1 => repeat (first | exact (Kd.R_reads' HO394.out).2.2 | (with_reducible refine Kd.C_alloc ?_ _) | (with_reducible refine Kd.C_drewN ?_ _) | (with_reducible refine Kd.C_drew ?_))); (case side2 => exact (Kd.R_reads' HO394.out).2.1); (case side3 => repeat (first | exact (Kd.R_reads' HO397.out).2.2 | (with_reducible refine Kd.C_alloc ?_ _) | (with_reducible refine Kd.C_drewN ?_ _) | (with_reducible refine Kd.C_drew ?_))); (case side4 => exact (Kd.R_reads' HO397.out).2.1); rintro e w' ⟨rfl, ⟨nd, rfl⟩⟩) | (go_at_call 55; (with_reducible refine (config_Leaves.calls kj14 _ _ t371 _ _ l1 t399 _ ?side1 ?side2 ?side3 ?side4 A43.out).mono ?_); (case side1 => repeat (first | exact (Kd.R_reads' HO_9.out).2.2 | (with_reducible refine Kd.C_alloc ?_ _) | (with_reducible refine Kd.C_drewN ?_ _) | (with_reducible refine Kd.C_drew ?_))); (case side2 => exact (Kd.R_reads' HO_9.out).2.1); (case side3 => repeat (first | exact (Kd.C_below HR1.out kz14_1) | (with_reducible refine Kd.C_alloc ?_ _) | (with_reducible refine Kd.C_drewN ?_ _) | (with_reducible refine Kd.C_drew ?_))); (case side4 => exact HC1.out); rintro e w59 ⟨v400, rfl, ho0, hb⟩; have n0_ := Aside0.mk (Kd.R_below kz14_5 hb); have n1_ := Aside0.mk (Kd.R_elder' kz14_2 (Kd.R_base ho0) hb); have n2_ := Aside0.mk (Kd.R_elder' kz14_4 (Kd.R_base ho0) hb); have n3_ := Aside0.mk (Kd.R_elder' kz14_6 (Kd.R_base ho0) hb); have n4_ := Aside0.mk (Kd.R_elder' kz14_7 (Kd.R_base ho0) hb); have n5_ := Aside0.mk (Kd.R_elder' kz14_8 (Kd.R_base ho0) hb); have n6_ := Aside0.mk (Kd.R_elder' kz14_10 (Kd.R_base ho0) hb); have n7_ := Aside0.mk (Kd.R_lower (Kd.R_new' (Kd.R_new' (Kd.R_new' (Kd.R_new' (Kd.R_new' (Kd.R_new' ho0 (Kd.R_lt kz14_2)) (Kd.R_lt kz14_4)) (Kd.R_lt kz14_6)) (Kd.R_lt kz14_7)) (Kd.R_lt kz14_8)) (Kd.R_lt kz14_10)) (below_size kz14_1)); have n8_ := Aside0.mk (below_step kz14_1 hb); clear HO_9; clear HO380; clear HO383; clear HO387; clear HO390; clear HO394; clear HO397; clear HB; have HO_9 := n0_; have HO380 := n1_; have HO383 := n2_; have HO387 := n3_; have HO390 := n4_; have HO394 := n5_; have HO397 := n6_; have HO401 := n7_; have HB := n8_; clear n0_ n1_ n2_ n3_ n4_ n5_ n6_ n7_ n8_; (try clear hb); (try clear hb2); (try clear hk); (try clear hi); (try clear ho0)) | (go_at_call 56; (with_reducible refine (tumbrelref09_Leaves.calls kj14 _ _ l0 _ _ l1 t402 _ ?side1 ?side2 ?side3 ?side4 A44.out).mono ?_); (case side1 => repeat (first | exact (Kd.C_below HR0.out HB.out) | (with_reducible refine Kd.C_alloc ?_ _) | (with_reducible refine Kd.C_drewN ?_ _) | (with_reducible refine Kd.C_drew ?_))); (case side2 => exact HC0.out); (case side3 => repeat (first | exact (Kd.C_below HR1.out HB.out) | (with_reducible refine Kd.C_alloc ?_ _) | (with_reducible refine Kd.C_drewN ?_ _) | (with_reducible refine Kd.C_drew ?_))); (case side4 => exact HC1.out); rintro e w60 ⟨v403, rfl, ho0, hb⟩; have n0_ := Aside0.mk (Kd.R_below kz14_5 hb); have n1_ := Aside0.mk (Kd.R_elder' kz14_2 (Kd.R_base ho0) hb); have n2_ := Aside0.mk (Kd.R_elder' kz14_4 (Kd.R_base ho0) hb); have n3_ := Aside0.mk (Kd.R_elder' kz14_6 (Kd.R_base ho0) hb); have n4_ := Aside0.mk (Kd.R_elder' kz14_7 (Kd.R_base ho0) hb); have n5_ := Aside0.mk (Kd.R_elder' kz14_8 (Kd.R_base ho0) hb); have n6_ := Aside0.mk (Kd.R_elder' kz14_10 (Kd.R_base ho0) hb); have n7_ := Aside0.mk (Kd.R_elder' (by (with_reducible repeat (first | apply Kd.R_alloc | apply Kd.R_drewN | apply Kd.R_drew)); exact HO401.out) (Kd.R_base ho0) hb); have n8_ := Aside0.mk (Kd.R_lower (Kd.R_new' (Kd.R_new' (Kd.R_new' (Kd.R_new' (Kd.R_new' (Kd.R_new' (Kd.R_new' ho0 (Kd.R_lt kz14_2)) (Kd.R_lt kz14_4)) (Kd.R_lt kz14_6)) (Kd.R_lt kz14_7)) (Kd.R_lt kz14_8)) (Kd.R_lt kz14_10)) (Kd.R_lt (by (with_reducible repeat (first | apply Kd.R_alloc | apply Kd.R_drewN | apply Kd.R_drew)); exact HO401.out))) (below_size kz14_1)); have n9_ := Aside0.mk (below_step kz14_1 hb); clear HO_9; clear HO380; clear HO383; clear HO387; clear HO390; clear HO394; clear HO397; clear HO401; clear HB; have HO_9 := n0_; have HO380 := n1_; have HO383 := n2_; have HO387 := n3_; have HO390 := n4_; have HO394 := n5_; have HO397 := n6_; have HO401 := n7_; have HO404 := n8_; have HB := n9_; clear n0_ n1_ n2_ n3_ n4_ n5_ n6_ n7_ n8_ n9_; (try clear hb); (try clear hb2); (try clear hk); (try clear hi); (try clear ho0); obtain ⟨Ao61, co61, eo61⟩ := Kd.R_slice HO401.out; subst eo61; obtain ⟨Ao62, co62, eo62⟩ := Kd.R_slice HO404.out; subst eo62) | (go_at_call 48; (with_reducible refine (tumbrelref09_Ints.calls kj14 _ _ t399 _ _ t402 t405 _ ?side1 ?side2 ?side3 ?side4 A45.out).mono ?_); (case side1 => repeat (first | exact (Kd.R_reads' HO401.out).2.2 | (with_reducible refine Kd.C_alloc ?_ _) | (with_reducible refine Kd.C_drewN ?_ _) | (with_reducible refine Kd.C_drew ?_))); (case side2 => exact (Kd.R_reads' HO401.out).2.1); (case side3 => repeat (first | exact (Kd.R_reads' HO404.out).2.2 | (with_reducible refine Kd.C_alloc ?_ _) | (with_reducible refine Kd.C_drewN ?_ _) | (with_reducible refine Kd.C_drew ?_))); (case side4 => exact (Kd.R_reads' HO404.out).2.1); rintro e w' ⟨rfl, ⟨nd, rfl⟩⟩))
          go_ret
          exact ⟨by first | rfl | (simp [errW_none, errW_some] <;> rfl) | (simp [*, errW_none, errW_some] <;> rfl), by repeat (first | (with_reducible first | exact HB.out | apply below_alloc | apply pw_below_drewN | apply below_drew1) | exact HB.out)⟩
         ·replace c42 := Bool.eq_false_iff.mpr c42
          subst c42
          have H1 : (some false) = some r := by rw [if_neg (show ¬ (false = true) by decide)] at H; exact H
          clear H
          have H := H1
          clear H1
          obtain rfl := Option.some.inj H
          obtain ⟨Ao63, co63, eo63⟩ := Kd.R_slice HO_9.out
          subst eo63
          go_wp2_with (first | ((with_reducible refine gate_callee (f := 49) rfl ?_); refine goesL_ (some 38) rfl rfl Try.func49 (by kernel_rfl) rfl #[.slice Ao63 t371.length co63] rfl kz14_3 ?_; (with_reducible refine (config_Start.calls kj14 _ _ t371 t378 _ ?side1 ?side2 A31.out).mono ?_); (case side1 => repeat (first | exact (Kd.R_reads' HO_9.out).2.2 | (with_reducible refine Kd.C_alloc ?_ _) | (with_reducible refine Kd.C_drewN ?_ _) | (with_reducible refine Kd.C_drew ?_))); (case side2 => exact (Kd.R_reads' HO_9.out).2.1); rintro e w64 ⟨v379, rfl, ho0, hb⟩; refine ⟨_, rfl, ?_⟩; have n0_ := Aside0.mk (Kd.R_below kz14_5 hb); have n1_ := Aside0.mk (Kd.R_lower ho0 (below_size kz14_1)); have n2_ := Aside0.mk (below_step kz14_1 hb); clear HO_9; clear HB; have HO_9 := n0_; have HO380 := n1_; have HB := n2_; clear n0_ n1_ n2_; (try clear hb); (try clear hb2); (try clear hk); (try clear hi); (try clear ho0)) | ((with_reducible refine gate_callee (f := 50) rfl ?_); refine goesL_ (some 40) rfl rfl Try.func50 (by kernel_rfl) rfl #[.slice A0 l0.length c0] rfl kz14_3 ?_; (with_reducible refine (tumbrelref09_Start.calls kj14 _ _ l0 t381 _ ?side1 ?side2 A32.out).mono ?_); (case side1 => repeat (first | exact (Kd.C_below HR0.out HB.out) | (with_reducible refine Kd.C_alloc ?_ _) | (with_reducible refine Kd.C_drewN ?_ _) | (with_reducible refine Kd.C_drew ?_))); (case side2 => exact HC0.out); rintro e w65 ⟨v382, rfl, ho0, hb⟩; refine ⟨_, rfl, ?_⟩; have n0_ := Aside0.mk (Kd.R_below kz14_5 hb); have n1_ := Aside0.mk (Kd.R_elder' kz14_2 (Kd.R_base ho0) hb); have n2_ := Aside0.mk (Kd.R_lower (Kd.R_new' ho0 (Kd.R_lt kz14_2)) (below_size kz14_1)); have n3_ := Aside0.mk (below_step kz14_1 hb); clear HO_9; clear HO380; clear HB; have HO_9 := n0_; have HO380 := n1_; have HO383 := n2_; have HB := n3_; clear n0_ n1_ n2_ n3_; (try clear hb); (try clear hb2); (try clear hk); (try clear hi); (try clear ho0); obtain ⟨Ao66, co66, eo66⟩ := Kd.R_slice HO380.out; subst eo66; obtain ⟨Ao67, co67, eo67⟩ := Kd.R_slice HO383.out; subst eo67) | ((with_reducible refine gate_callee (f := 48) rfl ?_); refine goesL_ (some 41) rfl rfl Try.func48 (by kernel_rfl) rfl #[.slice Ao66 t378.length co66, .slice Ao67 t381.length co67] rfl kz14_3 ?_; (with_reducible refine (tumbrelref09_Ints.calls kj14 _ _ t378 _ _ t381 true _ ?side1 ?side2 ?side3 ?side4 A33.out).mono ?_); (case side1 => repeat (first | exact (Kd.R_reads' HO380.out).2.2 | (with_reducible refine Kd.C_alloc ?_ _) | (with_reducible refine Kd.C_drewN ?_ _) | (with_reducible refine Kd.C_drew ?_))); (case side2 => exact (Kd.R_reads' HO380.out).2.1); (case side3 => repeat (first | exact (Kd.R_reads' HO383.out).2.2 | (with_reducible refine Kd.C_alloc ?_ _) | (with_reducible refine Kd.C_drewN ?_ _) | (with_reducible refine Kd.C_drew ?_))); (case side4 => exact (Kd.R_reads' HO383.out).2.1); rintro e w' ⟨rfl, ⟨nd, rfl⟩⟩; refine ⟨_, rfl, ?_⟩) | (go_at_call 51; (with_reducible refine (config_Enter.calls kj14 _ _ t371 a2 a3 t385 _ ?side1 ?side2 A35.out).mono ?_); (case side1 => repeat (first | exact (Kd.R_reads' HO_9.out).2.2 | (with_reducible refine Kd.C_alloc ?_ _) | (with_reducible refine Kd.C_drewN ?_ _) | (with_reducible refine Kd.C_drew ?_))); (case side2 => exact (Kd.R_reads' HO_9.out).2.1); rintro e w68 ⟨v386, rfl, ho0, hb⟩; have n0_ := Aside0.mk (Kd.R_below kz14_5 hb); have n1_ := Aside0.mk (Kd.R_elder' kz14_2 (Kd.R_base ho0) hb); have n2_ := Aside0.mk (Kd.R_elder' kz14_4 (Kd.R_base ho0) hb); have n3_ := Aside0.mk (Kd.R_lower (Kd.R_new' (Kd.R_new' ho0 (Kd.R_lt kz14_2)) (Kd.R_lt kz14_4)) (below_size kz14_1)); have n4_ := Aside0.mk (below_step kz14_1 hb); clear HO_9; clear HO380; clear HO383; clear HB; have HO_9 := n0_; have HO380 := n1_; have HO383 := n2_; have HO387 := n3_; have HB := n4_; clear n0_ n1_ n2_ n3_ n4_; (try clear hb); (try clear hb2); (try clear hk); (try clear hi); (try clear ho0)) | (go_at_call 52; (with_reducible refine (tumbrelref09_Enter.calls kj14 _ _ l0 a2 a3 t388 _ ?side1 ?side2 A36.out).mono ?_); (case side1 => repeat (first | exact (Kd.C_below HR0.out HB.out) | (with_reducible refine Kd.C_alloc ?_ _) | (with_reducible refine Kd.C_drewN ?_ _) | (with_reducible refine Kd.C_drew ?_))); (case side2 => exact HC0.out); rintro e w69 ⟨v389, rfl, ho0, hb⟩; have n0_ := Aside0.mk (Kd.R_below kz14_5 hb); have n1_ := Aside0.mk (Kd.R_elder' kz14_2 (Kd.R_base ho0) hb); have n2_ := Aside0.mk (Kd.R_elder' kz14_4 (Kd.R_base ho0) hb); have n3_ := Aside0.mk (Kd.R_elder' kz14_6 (Kd.R_base ho0) hb); have n4_ := Aside0.mk (Kd.R_lower (Kd.R_new' (Kd.R_new' (Kd.R_new' ho0 (Kd.R_lt kz14_2)) (Kd.R_lt kz14_4)) (Kd.R_lt kz14_6)) (below_size kz14_1)); have n5_ := Aside0.mk (below_step kz14_1 hb); clear HO_9; clear HO380; clear HO383; clear HO387; clear HB; have HO_9 := n0_; have HO380 := n1_; have HO383 := n2_; have HO387 := n3_; have HO390 := n4_; have HB := n5_; clear n0_ n1_ n2_ n3_ n4_ n5_; (try clear hb); (try clear hb2); (try clear hk); (try clear hi); (try clear ho0); obtain ⟨Ao70, co70, eo70⟩ := Kd.R_slice HO387.out; subst eo70; obtain ⟨Ao71, co71, eo71⟩ := Kd.R_slice HO390.out; subst eo71) | (go_at_call 48; (with_reducible refine (tumbrelref09_Ints.calls kj14 _ _ t385 _ _ t388 true _ ?side1 ?side2 ?side3 ?side4 A37.out).mono ?_); (case side1 => repeat (first | exact (Kd.R_reads' HO387.out).2.2 | (with_reducible refine Kd.C_alloc ?_ _) | (with_reducible refine Kd.C_drewN ?_ _) | (with_reducible refine Kd.C_drew ?_))); (case side2 => exact (Kd.R_reads' HO387.out).2.1); (case side3 => repeat (first | exact (Kd.R_reads' HO390.out).2.2 | (with_reducible refine Kd.C_alloc ?_ _) | (with_reducible refine Kd.C_drewN ?_ _) | (with_reducible refine Kd.C_drew ?_))); (case side4 => exact (Kd.R_reads' HO390.out).2.1); rintro e w' ⟨rfl, ⟨nd, rfl⟩⟩) | (go_at_call 53; (with_reducible refine (config_Leave.calls kj14 _ _ t371 _ _ l1 a2 t392 _ ?side1 ?side2 ?side3 ?side4 A39.out).mono ?_); (case side1 => repeat (first | exact (Kd.R_reads' HO_9.out).2.2 | (with_reducible refine Kd.C_alloc ?_ _) | (with_reducible refine Kd.C_drewN ?_ _) | (with_reducible refine Kd.C_drew ?_))); (case side2 => exact (Kd.R_reads' HO_9.out).2.1); (case side3 => repeat (first | exact (Kd.C_below HR1.out kz14_1) | (with_reducible refine Kd.C_alloc ?_ _) | (with_reducible refine Kd.C_drewN ?_ _) | (with_reducible refine Kd.C_drew ?_))); (case side4 => exact HC1.out); rintro e w72 ⟨v393, rfl, ho0, hb⟩; have n0_ := Aside0.mk (Kd.R_below kz14_5 hb); have n1_ := Aside0.mk (Kd.R_elder' kz14_2 (Kd.R_base ho0) hb); have n2_ := Aside0.mk (Kd.R_elder' kz14_4 (Kd.R_base ho0) hb); have n3_ := Aside0.mk (Kd.R_elder' kz14_6 (Kd.R_base ho0) hb); have n4_ := Aside0.mk (Kd.R_elder' kz14_7 (Kd.R_base ho0) hb); have n5_ := Aside0.mk (Kd.R_lower (Kd.R_new' (Kd.R_new' (Kd.R_new' (Kd.R_new' ho0 (Kd.R_lt kz14_2)) (Kd.R_lt kz14_4)) (Kd.R_lt kz14_6)) (Kd.R_lt kz14_7)) (below_size kz14_1)); have n6_ := Aside0.mk (below_step kz14_1 hb); clear HO_9; clear HO380; clear HO383; clear HO387; clear HO390; clear HB; have HO_9 := n0_; have HO380 := n1_; have HO383 := n2_; have HO387 := n3_; have HO390 := n4_; have HO394 := n5_; have HB := n6_; clear n0_ n1_ n2_ n3_ n4_ n5_ n6_; (try clear hb); (try clear hb2); (try clear hk); (try clear hi); (try clear ho0)) | (go_at_call 54; (with_reducible refine (tumbrelref09_Leave.calls kj14 _ _ l0 _ _ l1 a2 t395 _ ?side1 ?side2 ?side3 ?side4 A40.out).mono ?_); (case side1 => repeat (first | exact (Kd.C_below HR0.out HB.out) | (with_reducible refine Kd.C_alloc ?_ _) | (with_reducible refine Kd.C_drewN ?_ _) | (with_reducible refine Kd.C_drew ?_))); (case side2 => exact HC0.out); (case side3 => repeat (first | exact (Kd.C_below HR1.out HB.out) | (with_reducible refine Kd.C_alloc ?_ _) | (with_reducible refine Kd.C_drewN ?_ _) | (with_reducible refine Kd.C_drew ?_))); (case side4 => exact HC1.out); rintro e w73 ⟨v396, rfl, ho0, hb⟩; have n0_ := Aside0.mk (Kd.R_below kz14_5 hb); have n1_ := Aside0.mk (Kd.R_elder' kz14_2 (Kd.R_base ho0) hb); have n2_ := Aside0.mk (Kd.R_elder' kz14_4 (Kd.R_base ho0) hb); have n3_ := Aside0.mk (Kd.R_elder' kz14_6 (Kd.R_base ho0) hb); have n4_ := Aside0.mk (Kd.R_elder' kz14_7 (Kd.R_base ho0) hb); have n5_ := Aside0.mk (Kd.R_elder' kz14_8 (Kd.R_base ho0) hb); have n6_ := Aside0.mk (Kd.R_lower (Kd.R_new' (Kd.R_new' (Kd.R_new' (Kd.R_new' (Kd.R_new' ho0 (Kd.R_lt kz14_2)) (Kd.R_lt kz14_4)) (Kd.R_lt kz14_6)) (Kd.R_lt kz14_7)) (Kd.R_lt kz14_8)) (below_size kz14_1)); have n7_ := Aside0.mk (below_step kz14_1 hb); clear HO_9; clear HO380; clear HO383; clear HO387; clear HO390; clear HO394; clear HB; have HO_9 := n0_; have HO380 := n1_; have HO383 := n2_; have HO387 := n3_; have HO390 := n4_; have HO394 := n5_; have HO397 := n6_; have HB := n7_; clear n0_ n1_ n2_ n3_ n4_ n5_ n6_ n7_; (try clear hb); (try clear hb2); (try clear hk); (try clear hi); (try clear ho0); obtain ⟨Ao74, co74, eo74⟩ := Kd.R_slice HO394.out; subst eo74; obtain ⟨Ao75, co75, eo75⟩ := Kd.R_slice HO397.out; subst eo75) | (go_at_call 48; (with_reducible refine (tumbrelref09_Ints.calls kj14 _ _ t392 _ _ t395 false _ ?side1 ?side2 ?side3 ?side4 A41.out).mono ?_); (case side1 => repeat (first | exact (Kd.R_reads' HO394.out).2.2 | (with_reducible refine Kd.C_alloc ?_ _) | (with_reducible refine Kd.C_drewN ?_ _) | (with_reducible refine Kd.C_drew ?_))); (case side2 => exact (Kd.R_reads' HO394.out).2.1); (case side3 => repeat (first | exact (Kd.R_reads' HO397.out).2.2 | (with_reducible refine Kd.C_alloc ?_ _) | (with_reducible refine Kd.C_drewN ?_ _) | (with_reducible refine Kd.C_drew ?_))); (case side4 => exact (Kd.R_reads' HO397.out).2.1); rintro e w' ⟨rfl, ⟨nd, rfl⟩⟩))
          go_ret
          exact ⟨by first | rfl | (simp [errW_none, errW_some] <;> rfl) | (simp [*, errW_none, errW_some] <;> rfl), by repeat (first | (with_reducible first | exact HB.out | apply below_alloc | apply pw_below_drewN | apply below_drew1) | exact HB.out)⟩
        ·replace c38 := Bool.eq_false_iff.mpr c38
         subst c38
         have H1 : (some false) = some r := by rw [if_neg (show ¬ (false = true) by decide)] at H; exact H
         clear H
         have H := H1
         clear H1
         obtain rfl := Option.some.inj H
         obtain ⟨Ao76, co76, eo76⟩ := Kd.R_slice HO_9.out
         subst eo76
         go_wp2_with (first | ((with_reducible refine gate_callee (f := 49) rfl ?_); refine goesL_ (some 38) rfl rfl Try.func49 (by kernel_rfl) rfl #[.slice Ao76 t371.length co76] rfl kz14_3 ?_; (with_reducible refine (config_Start.calls kj14 _ _ t371 t378 _ ?side1 ?side2 A31.out).mono ?_); (case side1 => repeat (first | exact (Kd.R_reads' HO_9.out).2.2 | (with_reducible refine Kd.C_alloc ?_ _) | (with_reducible refine Kd.C_drewN ?_ _) | (with_reducible refine Kd.C_drew ?_))); (case side2 => exact (Kd.R_reads' HO_9.out).2.1); rintro e w77 ⟨v379, rfl, ho0, hb⟩; refine ⟨_, rfl, ?_⟩; have n0_ := Aside0.mk (Kd.R_below kz14_5 hb); have n1_ := Aside0.mk (Kd.R_lower ho0 (below_size kz14_1)); have n2_ := Aside0.mk (below_step kz14_1 hb); clear HO_9; clear HB; have HO_9 := n0_; have HO380 := n1_; have HB := n2_; clear n0_ n1_ n2_; (try clear hb); (try clear hb2); (try clear hk); (try clear hi); (try clear ho0)) | ((with_reducible refine gate_callee (f := 50) rfl ?_); refine goesL_ (some 40) rfl rfl Try.func50 (by kernel_rfl) rfl #[.slice A0 l0.length c0] rfl kz14_3 ?_; (with_reducible refine (tumbrelref09_Start.calls kj14 _ _ l0 t381 _ ?side1 ?side2 A32.out).mono ?_); (case side1 => repeat (first | exact (Kd.C_below HR0.out HB.out) | (with_reducible refine Kd.C_alloc ?_ _) | (with_reducible refine Kd.C_drewN ?_ _) | (with_reducible refine Kd.C_drew ?_))); (case side2 => exact HC0.out); rintro e w78 ⟨v382, rfl, ho0, hb⟩; refine ⟨_, rfl, ?_⟩; have n0_ := Aside0.mk (Kd.R_below kz14_5 hb); have n1_ := Aside0.mk (Kd.R_elder' kz14_2 (Kd.R_base ho0) hb); have n2_ := Aside0.mk (Kd.R_lower (Kd.R_new' ho0 (Kd.R_lt kz14_2)) (below_size kz14_1)); have n3_ := Aside0.mk (below_step kz14_1 hb); clear HO_9; clear HO380; clear HB; have HO_9 := n0_; have HO380 := n1_; have HO383 := n2_; have HB := n3_; clear n0_ n1_ n2_ n3_; (try clear hb); (try clear hb2); (try clear hk); (try clear hi); (try clear ho0); obtain ⟨Ao79, co79, eo79⟩ := Kd.R_slice HO380.out; subst eo79; obtain ⟨Ao80, co80, eo80⟩ := Kd.R_slice HO383.out; subst eo80) | ((with_reducible refine gate_callee (f := 48) rfl ?_); refine goesL_ (some 41) rfl rfl Try.func48 (by kernel_rfl) rfl #[.slice Ao79 t378.length co79, .slice Ao80 t381.length co80] rfl kz14_3 ?_; (with_reducible refine (tumbrelref09_Ints.calls kj14 _ _ t378 _ _ t381 true _ ?side1 ?side2 ?side3 ?side4 A33.out).mono ?_); (case side1 => repeat (first | exact (Kd.R_reads' HO380.out).2.2 | (with_reducible refine Kd.C_alloc ?_ _) | (with_reducible refine Kd.C_drewN ?_ _) | (with_reducible refine Kd.C_drew ?_))); (case side2 => exact (Kd.R_reads' HO380.out).2.1); (case side3 => repeat (first | exact (Kd.R_reads' HO383.out).2.2 | (with_reducible refine Kd.C_alloc ?_ _) | (with_reducible refine Kd.C_drewN ?_ _) | (with_reducible refine Kd.C_drew ?_))); (case side4 => exact (Kd.R_reads' HO383.out).2.1); rintro e w' ⟨rfl, ⟨nd, rfl⟩⟩; refine ⟨_, rfl, ?_⟩) | (go_at_call 51; (with_reducible refine (config_Enter.calls kj14 _ _ t371 a2 a3 t385 _ ?side1 ?side2 A35.out).mono ?_); (case side1 => repeat (first | exact (Kd.R_reads' HO_9.out).2.2 | (with_reducible refine Kd.C_alloc ?_ _) | (with_reducible refine Kd.C_drewN ?_ _) | (with_reducible refine Kd.C_drew ?_))); (case side2 => exact (Kd.R_reads' HO_9.out).2.1); rintro e w81 ⟨v386, rfl, ho0, hb⟩; have n0_ := Aside0.mk (Kd.R_below kz14_5 hb); have n1_ := Aside0.mk (Kd.R_elder' kz14_2 (Kd.R_base ho0) hb); have n2_ := Aside0.mk (Kd.R_elder' kz14_4 (Kd.R_base ho0) hb); have n3_ := Aside0.mk (Kd.R_lower (Kd.R_new' (Kd.R_new' ho0 (Kd.R_lt kz14_2)) (Kd.R_lt kz14_4)) (below_size kz14_1)); have n4_ := Aside0.mk (below_step kz14_1 hb); clear HO_9; clear HO380; clear HO383; clear HB; have HO_9 := n0_; have HO380 := n1_; have HO383 := n2_; have HO387 := n3_; have HB := n4_; clear n0_ n1_ n2_ n3_ n4_; (try clear hb); (try clear hb2); (try clear hk); (try clear hi); (try clear ho0)) | (go_at_call 52; (with_reducible refine (tumbrelref09_Enter.calls kj14 _ _ l0 a2 a3 t388 _ ?side1 ?side2 A36.out).mono ?_); (case side1 => repeat (first | exact (Kd.C_below HR0.out HB.out) | (with_reducible refine Kd.C_alloc ?_ _) | (with_reducible refine Kd.C_drewN ?_ _) | (with_reducible refine Kd.C_drew ?_))); (case side2 => exact HC0.out); rintro e w82 ⟨v389, rfl, ho0, hb⟩; have n0_ := Aside0.mk (Kd.R_below kz14_5 hb); have n1_ := Aside0.mk (Kd.R_elder' kz14_2 (Kd.R_base ho0) hb); have n2_ := Aside0.mk (Kd.R_elder' kz14_4 (Kd.R_base ho0) hb); have n3_ := Aside0.mk (Kd.R_elder' kz14_6 (Kd.R_base ho0) hb); have n4_ := Aside0.mk (Kd.R_lower (Kd.R_new' (Kd.R_new' (Kd.R_new' ho0 (Kd.R_lt kz14_2)) (Kd.R_lt kz14_4)) (Kd.R_lt kz14_6)) (below_size kz14_1)); have n5_ := Aside0.mk (below_step kz14_1 hb); clear HO_9; clear HO380; clear HO383; clear HO387; clear HB; have HO_9 := n0_; have HO380 := n1_; have HO383 := n2_; have HO387 := n3_; have HO390 := n4_; have HB := n5_; clear n0_ n1_ n2_ n3_ n4_ n5_; (try clear hb); (try clear hb2); (try clear hk); (try clear hi); (try clear ho0); obtain ⟨Ao83, co83, eo83⟩ := Kd.R_slice HO387.out; subst eo83; obtain ⟨Ao84, co84, eo84⟩ := Kd.R_slice HO390.out; subst eo84) | (go_at_call 48; (with_reducible refine (tumbrelref09_Ints.calls kj14 _ _ t385 _ _ t388 false _ ?side1 ?side2 ?side3 ?side4 A37.out).mono ?_); (case side1 => repeat (first | exact (Kd.R_reads' HO387.out).2.2 | (with_reducible refine Kd.C_alloc ?_ _) | (with_reducible refine Kd.C_drewN ?_ _) | (with_reducible refine Kd.C_drew ?_))); (case side2 => exact (Kd.R_reads' HO387.out).2.1); (case side3 => repeat (first | exact (Kd.R_reads' HO390.out).2.2 | (with_reducible refine Kd.C_alloc ?_ _) | (with_reducible refine Kd.C_drewN ?_ _) | (with_reducible refine Kd.C_drew ?_))); (case side4 => exact (Kd.R_reads' HO390.out).2.1); rintro e w' ⟨rfl, ⟨nd, rfl⟩⟩))
         go_ret
         exact ⟨by first | rfl | (simp [errW_none, errW_some] <;> rfl) | (simp [*, errW_none, errW_some] <;> rfl), by repeat (first | (with_reducible first | exact HB.out | apply below_alloc | apply pw_below_drewN | apply below_drew1) | exact HB.out)⟩
       ·replace c34 := Bool.eq_false_iff.mpr c34
        subst c34
        have H1 : (some false) = some r := by rw [if_neg (show ¬ (false = true) by decide)] at H; exact H
        clear H
        have H := H1
        clear H1
        obtain rfl := Option.some.inj H
        obtain ⟨Ao85, co85, eo85⟩ := Kd.R_slice HO_9.out
        subst eo85
        go_wp2_with (first | ((with_reducible refine gate_callee (f := 49) rfl ?_); refine goesL_ (some 38) rfl rfl Try.func49 (by kernel_rfl) rfl #[.slice Ao85 t371.length co85] rfl kz14_3 ?_; (with_reducible refine (config_Start.calls kj14 _ _ t371 t378 _ ?side1 ?side2 A31.out).mono ?_); (case side1 => repeat (first | exact (Kd.R_reads' HO_9.out).2.2 | (with_reducible refine Kd.C_alloc ?_ _) | (with_reducible refine Kd.C_drewN ?_ _) | (with_reducible refine Kd.C_drew ?_))); (case side2 => exact (Kd.R_reads' HO_9.out).2.1); rintro e w86 ⟨v379, rfl, ho0, hb⟩; refine ⟨_, rfl, ?_⟩; have n0_ := Aside0.mk (Kd.R_below kz14_5 hb); have n1_ := Aside0.mk (Kd.R_lower ho0 (below_size kz14_1)); have n2_ := Aside0.mk (below_step kz14_1 hb); clear HO_9; clear HB; have HO_9 := n0_; have HO380 := n1_; have HB := n2_; clear n0_ n1_ n2_; (try clear hb); (try clear hb2); (try clear hk); (try clear hi); (try clear ho0)) | ((with_reducible refine gate_callee (f := 50) rfl ?_); refine goesL_ (some 40) rfl rfl Try.func50 (by kernel_rfl) rfl #[.slice A0 l0.length c0] rfl kz14_3 ?_; (with_reducible refine (tumbrelref09_Start.calls kj14 _ _ l0 t381 _ ?side1 ?side2 A32.out).mono ?_); (case side1 => repeat (first | exact (Kd.C_below HR0.out HB.out) | (with_reducible refine Kd.C_alloc ?_ _) | (with_reducible refine Kd.C_drewN ?_ _) | (with_reducible refine Kd.C_drew ?_))); (case side2 => exact HC0.out); rintro e w87 ⟨v382, rfl, ho0, hb⟩; refine ⟨_, rfl, ?_⟩; have n0_ := Aside0.mk (Kd.R_below kz14_5 hb); have n1_ := Aside0.mk (Kd.R_elder' kz14_2 (Kd.R_base ho0) hb); have n2_ := Aside0.mk (Kd.R_lower (Kd.R_new' ho0 (Kd.R_lt kz14_2)) (below_size kz14_1)); have n3_ := Aside0.mk (below_step kz14_1 hb); clear HO_9; clear HO380; clear HB; have HO_9 := n0_; have HO380 := n1_; have HO383 := n2_; have HB := n3_; clear n0_ n1_ n2_ n3_; (try clear hb); (try clear hb2); (try clear hk); (try clear hi); (try clear ho0); obtain ⟨Ao88, co88, eo88⟩ := Kd.R_slice HO380.out; subst eo88; obtain ⟨Ao89, co89, eo89⟩ := Kd.R_slice HO383.out; subst eo89) | ((with_reducible refine gate_callee (f := 48) rfl ?_); refine goesL_ (some 41) rfl rfl Try.func48 (by kernel_rfl) rfl #[.slice Ao88 t378.length co88, .slice Ao89 t381.length co89] rfl kz14_3 ?_; (with_reducible refine (tumbrelref09_Ints.calls kj14 _ _ t378 _ _ t381 false _ ?side1 ?side2 ?side3 ?side4 A33.out).mono ?_); (case side1 => repeat (first | exact (Kd.R_reads' HO380.out).2.2 | (with_reducible refine Kd.C_alloc ?_ _) | (with_reducible refine Kd.C_drewN ?_ _) | (with_reducible refine Kd.C_drew ?_))); (case side2 => exact (Kd.R_reads' HO380.out).2.1); (case side3 => repeat (first | exact (Kd.R_reads' HO383.out).2.2 | (with_reducible refine Kd.C_alloc ?_ _) | (with_reducible refine Kd.C_drewN ?_ _) | (with_reducible refine Kd.C_drew ?_))); (case side4 => exact (Kd.R_reads' HO383.out).2.1); rintro e w' ⟨rfl, ⟨nd, rfl⟩⟩; refine ⟨_, rfl, ?_⟩))
        go_ret
        exact ⟨by first | rfl | (simp [errW_none, errW_some] <;> rfl) | (simp [*, errW_none, errW_some] <;> rfl), by repeat (first | (with_reducible first | exact HB.out | apply below_alloc | apply pw_below_drewN | apply below_drew1) | exact HB.out)⟩

end Go.Proofs.Ytjghlomkimoeoaa.PConfigAsks
