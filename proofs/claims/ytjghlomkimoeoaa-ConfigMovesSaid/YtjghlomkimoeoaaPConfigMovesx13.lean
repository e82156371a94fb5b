-- Written by fprint.py (wip), by way of the printer's functions; where they are turned, by texts of mine.
import Derived.Test.YtjghlomkimoeoaaPConfigMovesx0
import Derived.Test.YtjghlomkimoeoaaPConfigMovesx5
import Derived.Test.YtjghlomkimoeoaaPConfigMovesx8
import Derived.Test.YtjghlomkimoeoaaPConfigMovesx9
import Derived.Test.YtjghlomkimoeoaaPConfigMovesx11
import Derived.Test.YtjghlomkimoeoaaPConfigMovesx12
namespace Go.Proofs.Ytjghlomkimoeoaa.PConfigMoves
open Go.RowKit Go.Proofs.YtjghlomkimoeoaaW.PrintWords Go.Proofs.YtjghlomkimoeoaaW.PrintLast Go.Proofs.YtjghlomkimoeoaaW.PrintMore
attribute [local go_sem] max2_int min2_int max_two min_two max_three min_three max_four min_four   -- for this text's walks alone
set_option linter.unusedVariables false
set_option linter.unusedSimpArgs false
theorem kz13_1 {p_ : Prop} (h_ : p_ := by repeat (first | (with_reducible first | exact HB.out | apply below_alloc | apply pw_below_drewN | apply below_drew1) | exact HB.out)) : p_ := h_
theorem kz13_2 {p_ : Prop} (h_ : p_ := by (try simp only [List.map_toArray, List.map_cons, List.map_nil]); first | done | rfl | (simp only [List.length_drop, List.length_take]; rfl)) : p_ := h_
theorem kz13_3 {p_ : Prop} (h_ : p_ := by (with_reducible repeat (first | apply Kd.R_alloc | apply Kd.R_drewN | apply Kd.R_drew)); exact HO377.out) : p_ := h_
theorem kz13_4 {p_ : Prop} (h_ : p_ := by (with_reducible repeat (first | apply Kd.R_alloc | apply Kd.R_drewN | apply Kd.R_drew)); exact HO375.out) : p_ := h_
theorem kz13_5 {p_ : Prop} (h_ : p_ := by (with_reducible repeat (first | apply Kd.R_alloc | apply Kd.R_drewN | apply Kd.R_drew)); exact HO373.out) : p_ := h_
theorem kz13_6 {p_ : Prop} (h_ : p_ := by (with_reducible repeat (first | apply Kd.R_alloc | apply Kd.R_drewN | apply Kd.R_drew)); exact HO368.out) : p_ := h_
theorem kz13_7 {p_ : Prop} (h_ : p_ := by first | rfl | (simp; done) | (simp [*]; done)) : p_ := h_
theorem kz13_8 {p_ : Prop} (h_ : p_ := by (with_reducible repeat (first | apply Kd.R_alloc | apply Kd.R_drewN | apply Kd.R_drew)); exact HO_13.out) : p_ := h_
theorem kz13_9 {p_ : Prop} (h_ : p_ := by (with_reducible repeat (first | apply Kd.R_alloc | apply Kd.R_drewN | apply Kd.R_drew)); exact HO_12.out) : p_ := h_

/-! ### tumbrelref09_Move: function 58 -/
mutual
def tumbrelref09_Move.j0 : Nat → List (S140) → List Int → Int → Int → Bool → Option (List Int × List Int × List Int)
 | 0, _, _, _, _, _ => none
 | k + 1, x0, x1, x2, x3, x30 => if x30 = true then (some (([] : List Int), ([] : List Int), ([] : List Int))) else ((tumbrelref09_Meet.f k x0 x2 x3).bind fun t347 => ((tumbrelref09_Leave.f k x0 x1 t347).bind fun t348 => ((tumbrelref09_Enter.f k x0 t347 x3).bind fun t351 => (tumbrelref09_Move.l0 k x1 t348 t351 ([] : List Int) (x0.length : Int) 0))))
def tumbrelref09_Move.l0 : Nat → List Int → List Int → List Int → List Int → Int → Int → Option (List Int × List Int × List Int)
 | 0, _, _, _, _, _, _ => none
 | k + 1, x1, x12, x13, x14, x44, x45 => if x45 < x44 then ((tumbrelref09_has.f k x13 x45).bind fun t354 => (if t354 = true then (if x14.length < 17592186044416 then (tumbrelref09_Move.l0 k x1 x12 x13 (x14 ++ [x45]) x44 (wrap64 (x45 + 1))) else (none)) else ((tumbrelref09_has.f k x1 x45).bind fun t358 => (if t358 = true then ((tumbrelref09_has.f k x12 x45).bind fun t359 => (if t359 = true then (tumbrelref09_Move.l0 k x1 x12 x13 x14 x44 (wrap64 (x45 + 1))) else (if x14.length < 17592186044416 then (tumbrelref09_Move.l0 k x1 x12 x13 (x14 ++ [x45]) x44 (wrap64 (x45 + 1))) else (none)))) else (tumbrelref09_Move.l0 k x1 x12 x13 x14 x44 (wrap64 (x45 + 1))))))) else (some (x12, x13, x14))
end
def tumbrelref09_Move.f (k : Nat) (l0 : List (S140)) (l1 : List Int) (a2 : Int) (a3 : Int) : Option (List Int × List Int × List Int) := (tumbrelref09_Formed.f k l0).bind fun t344 => (if t344 = true then ((tumbrelref09_state.f l0 a2).bind fun t345 => (if t345 = true then ((tumbrelref09_state.f l0 a3).bind fun t346 => (tumbrelref09_Move.j0 k l0 l1 a2 a3 (!t346))) else (tumbrelref09_Move.j0 k l0 l1 a2 a3 true))) else (tumbrelref09_Move.j0 k l0 l1 a2 a3 true))
theorem tumbrelref09_Move.mono_l : ∀ k, (∀ y0 y1 y2 y3 y4, LeO (tumbrelref09_Move.j0 k y0 y1 y2 y3 y4) (tumbrelref09_Move.j0 (k + 1) y0 y1 y2 y3 y4)) ∧ (∀ y0 y1 y2 y3 y4 y5, LeO (tumbrelref09_Move.l0 k y0 y1 y2 y3 y4 y5) (tumbrelref09_Move.l0 (k + 1) y0 y1 y2 y3 y4 y5))
 | 0 => ⟨fun _ _ _ _ _ r h => by simp [tumbrelref09_Move.j0] at h, fun _ _ _ _ _ _ r h => by simp [tumbrelref09_Move.l0] at h⟩
 | k + 1 => by
  obtain ⟨ih0, ih1⟩ := tumbrelref09_Move.mono_l k
  refine ⟨?_, ?_⟩
  ·intro y0 y1 y2 y3 y4
   unfold tumbrelref09_Move.j0
   repeat' first
   | (with_reducible exact ih0 _ _ _ _ _)
   | (with_reducible exact ih1 _ _ _ _ _ _)
   | (with_reducible exact tumbrelref09_Enter.mono _ _ _ _)
   | (with_reducible exact tumbrelref09_Formed.mono _ _)
   | (with_reducible exact tumbrelref09_Leave.mono _ _ _ _)
   | (with_reducible exact tumbrelref09_Meet.mono _ _ _ _)
   | (with_reducible exact tumbrelref09_has.mono _ _ _)
   | (with_reducible exact LeO.refl _)
   | (with_reducible exact LeO.none _)
   | (with_reducible refine LeO.ite ?_ ?_)
   | (with_reducible refine LeO.bind ?_ (fun _ => ?_))
   | exact ih0 _ _ _ _ _
   | exact ih1 _ _ _ _ _ _
   | exact tumbrelref09_Enter.mono _ _ _ _
   | exact tumbrelref09_Formed.mono _ _
   | exact tumbrelref09_Leave.mono _ _ _ _
   | exact tumbrelref09_Meet.mono _ _ _ _
   | exact tumbrelref09_has.mono _ _ _
   | exact LeO.none _
   | refine LeO.ite ?_ ?_
   | refine LeO.bind ?_ (fun _ => ?_)
  ·intro y0 y1 y2 y3 y4 y5
   unfold tumbrelref09_Move.l0
   repeat' first
   | (with_reducible exact ih0 _ _ _ _ _)
   | (with_reducible exact ih1 _ _ _ _ _ _)
   | (with_reducible exact tumbrelref09_Enter.mono _ _ _ _)
   | (with_reducible exact tumbrelref09_Formed.mono _ _)
   | (with_reducible exact tumbrelref09_Leave.mono _ _ _ _)
   | (with_reducible exact tumbrelref09_Meet.mono _ _ _ _)
   | (with_reducible exact tumbrelref09_has.mono _ _ _)
   | (with_reducible exact LeO.refl _)
   | (with_reducible exact LeO.none _)
   | (with_reducible refine LeO.ite ?_ ?_)
   | (with_reducible refine LeO.bind ?_ (fun _ => ?_))
   | exact ih0 _ _ _ _ _
   | exact ih1 _ _ _ _ _ _
   | exact tumbrelref09_Enter.mono _ _ _ _
   | exact tumbrelref09_Formed.mono _ _
   | exact tumbrelref09_Leave.mono _ _ _ _
   | exact tumbrelref09_Meet.mono _ _ _ _
   | exact tumbrelref09_has.mono _ _ _
   | exact LeO.none _
   | refine LeO.ite ?_ ?_
   | refine LeO.bind ?_ (fun _ => ?_)
theorem tumbrelref09_Move.mono : ∀ a0 a1 a2 a3 k, LeO (tumbrelref09_Move.f k a0 a1 a2 a3) (tumbrelref09_Move.f (k + 1) a0 a1 a2 a3) := by
 intro a0 a1 a2 a3 k
 obtain ⟨ih0, ih1⟩ := tumbrelref09_Move.mono_l k
 unfold tumbrelref09_Move.f
 repeat' first
   | (with_reducible exact ih0 _ _ _ _ _)
   | (with_reducible exact ih1 _ _ _ _ _ _)
   | (with_reducible exact tumbrelref09_Enter.mono _ _ _ _)
   | (with_reducible exact tumbrelref09_Formed.mono _ _)
   | (with_reducible exact tumbrelref09_Leave.mono _ _ _ _)
   | (with_reducible exact tumbrelref09_Meet.mono _ _ _ _)
   | (with_reducible exact tumbrelref09_has.mono _ _ _)
   | (with_reducible exact LeO.refl _)
   | (with_reducible exact LeO.none _)
   | (with_reducible refine LeO.ite ?_ ?_)
   | (with_reducible refine LeO.bind ?_ (fun _ => ?_))
   | exact ih0 _ _ _ _ _
   | exact ih1 _ _ _ _ _ _
   | exact tumbrelref09_Enter.mono _ _ _ _
   | exact tumbrelref09_Formed.mono _ _
   | exact tumbrelref09_Leave.mono _ _ _ _
   | exact tumbrelref09_Meet.mono _ _ _ _
   | exact tumbrelref09_has.mono _ _ _
   | exact LeO.none _
   | refine LeO.ite ?_ ?_
   | refine LeO.bind ?_ (fun _ => ?_)
set_option maxHeartbeats 8000000 in
set_option maxRecDepth 100000 in
theorem tumbrelref09_Move.calls (k : Nat) (A0 : Option Addr) (c0 : Nat) (l0 : List (S140)) (A1 : Option Addr) (c1 : Nat) (l1 : List Int) (a2 : Int) (a3 : Int) (r1 : List Int) (r2 : List Int) (r3 : List Int) (w : World) (hr0 : Kd.C k140 w A0 l0.length l0) (hc0 : l0.length ≤ c0) (hr1 : Kd.C (Kd.int .i64) w A1 l1.length l1) (hc1 : l1.length ≤ c1) (h : tumbrelref09_Move.f k l0 l1 a2 a3 = some (r1, r2, r3)) :
  Calls Try.prog 58 #[.slice A0 l0.length c0, .slice A1 l1.length c1, .int .i64 a2, .int .i64 a3] w fun e w' => ∃ v0_ v1_ v2_ : Value, e = .returned (.tuple #[v0_, v1_, v2_]) ∧ Kd.R (Kd.int .i64) 3 w' w.heap.size (fun k_ => some k_ ≠ (v1_ : Value).ownBlock ∧ some k_ ≠ (v2_ : Value).ownBlock) v0_ r1 ∧ Kd.R (Kd.int .i64) 3 w' w.heap.size (fun k_ => some k_ ≠ (v0_ : Value).ownBlock ∧ some k_ ≠ (v2_ : Value).ownBlock) v1_ r2 ∧ Kd.R (Kd.int .i64) 3 w' w.heap.size (fun k_ => some k_ ≠ (v0_ : Value).ownBlock ∧ some k_ ≠ (v1_ : Value).ownBlock) v2_ r3 ∧ Below w.heap.size w w' := by
 have HR0 := Aside0.mk hr0
 have HC0 := Aside0.mk hc0
 clear hr0 hc0
 have HR1 := Aside0.mk hr1
 have HC1 := Aside0.mk hc1
 clear hr1 hc1
 have HB := Aside0.mk (Below.refl w.heap.size w)
 have H : ((tumbrelref09_Formed.f k l0).bind fun t344 => (if t344 = true then ((tumbrelref09_state.f l0 a2).bind fun t345 => (if t345 = true then ((tumbrelref09_state.f l0 a3).bind fun t346 => (tumbrelref09_Move.j0 k l0 l1 a2 a3 (!t346))) else (tumbrelref09_Move.j0 k l0 l1 a2 a3 true))) else (tumbrelref09_Move.j0 k l0 l1 a2 a3 true))) = some (r1, r2, r3) := h
 clear h
 have HC5 := Aside0.mk H
 clear H
 go_enter Try.func58, Try.ntmps58
 go_upto_region 1 with (fail)
 go_cut [30] (fun v30 wc => ∃ (kq : Nat) (x30_4 : Bool), v30 = .bool x30_4 ∧ Aside0 (tumbrelref09_Move.j0 kq l0 l1 a2 a3 x30_4 = some (r1, r2, r3)) ∧ Aside0 (kq ≤ k) ∧ Aside0 (Below w.heap.size w wc))
 case first =>
  have H := HC5.out
  clear HC5
  replace H := Option.bind_eq_some_iff.mp H
  obtain ⟨t344, A60, H⟩ := H
  replace H : (if t344 = true then ((tumbrelref09_state.f l0 a2).bind fun t345 => (if t345 = true then ((tumbrelref09_state.f l0 a3).bind fun t346 => (tumbrelref09_Move.j0 k l0 l1 a2 a3 (!t346))) else (tumbrelref09_Move.j0 k l0 l1 a2 a3 true))) else (tumbrelref09_Move.j0 k l0 l1 a2 a3 true)) = some (r1, r2, r3) := H
  have A6 := Aside0.mk A60
  clear A60
  by_cases c7 : t344 = true
  ·subst c7
   have H1 : ((tumbrelref09_state.f l0 a2).bind fun t345 => (if t345 = true then ((tumbrelref09_state.f l0 a3).bind fun t346 => (tumbrelref09_Move.j0 k l0 l1 a2 a3 (!t346))) else (tumbrelref09_Move.j0 k l0 l1 a2 a3 true))) = some (r1, r2, r3) := by rw [if_pos rfl] at H; exact H
   clear H
   have H := H1
   clear H1
   replace H := Option.bind_eq_some_iff.mp H
   obtain ⟨t345, A80, H⟩ := H
   replace H : (if t345 = true then ((tumbrelref09_state.f l0 a3).bind fun t346 => (tumbrelref09_Move.j0 k l0 l1 a2 a3 (!t346))) else (tumbrelref09_Move.j0 k l0 l1 a2 a3 true)) = some (r1, r2, r3) := H
   have A8 := Aside0.mk A80
   clear A80
   by_cases c9 : t345 = true
   ·subst c9
    have H1 : ((tumbrelref09_state.f l0 a3).bind fun t346 => (tumbrelref09_Move.j0 k l0 l1 a2 a3 (!t346))) = some (r1, r2, r3) := by rw [if_pos rfl] at H; exact H
    clear H
    have H := H1
    clear H1
    replace H := Option.bind_eq_some_iff.mp H
    obtain ⟨t346, A100, H⟩ := H
    replace H : (tumbrelref09_Move.j0 k l0 l1 a2 a3 (!t346)) = some (r1, r2, r3) := H
    have A10 := Aside0.mk A100
    clear A100
    have H' := Aside0.mk H
    clear H
    go_wp2_with (first | ((with_reducible refine gate_callee (f := 86) rfl ?_); refine goesL_ (some 17) rfl rfl Try.func86 (by kernel_rfl) rfl #[.slice A0 l0.length c0] rfl kz13_2 ?_; (with_reducible refine (tumbrelref09_Formed.calls k _ _ l0 true _ ?side1 ?side2 A6.out).mono ?_); (case side1 => repeat (first | exact (Kd.C_below HR0.out HB.out) | (with_reducible refine Kd.C_alloc ?_ _) | (with_reducible refine Kd.C_drewN ?_ _) | (with_reducible refine Kd.C_drew ?_))); (case side2 => exact HC0.out); rintro e w' ⟨rfl, ⟨nd, rfl⟩⟩; refine ⟨_, rfl, ?_⟩) | (go_at_call 87; (with_reducible refine (tumbrelref09_state.calls _ _ l0 a2 true _ ?side1 ?side2 A8.out).mono ?_); (case side1 => repeat (first | exact (Kd.C_below HR0.out kz13_1) | (with_reducible refine Kd.C_alloc ?_ _) | (with_reducible refine Kd.C_drewN ?_ _) | (with_reducible refine Kd.C_drew ?_))); (case side2 => exact HC0.out); rintro e w' ⟨rfl, ⟨nd, rfl⟩⟩) | (go_at_call 87; (with_reducible refine (tumbrelref09_state.calls _ _ l0 a3 t346 _ ?side1 ?side2 A10.out).mono ?_); (case side1 => repeat (first | exact (Kd.C_below HR0.out kz13_1) | (with_reducible refine Kd.C_alloc ?_ _) | (with_reducible refine Kd.C_drewN ?_ _) | (with_reducible refine Kd.C_drew ?_))); (case side2 => exact HC0.out); rintro e w' ⟨rfl, ⟨nd, rfl⟩⟩))
    go_meet
    case rel => exact ⟨_, (!t346), kz13_7, H', ⟨by first | omega | exact Nat.le_refl _⟩, ⟨by repeat (first | (with_reducible first | exact HB.out | apply below_alloc | apply pw_below_drewN | apply below_drew1) | exact HB.out)⟩⟩
   ·replace c9 := Bool.eq_false_iff.mpr c9
    subst c9
    have H1 : (tumbrelref09_Move.j0 k l0 l1 a2 a3 true) = some (r1, r2, r3) := by rw [if_neg (show ¬ (false = true) by decide)] at H; exact H
    clear H
    have H := H1
    clear H1
    have H' := Aside0.mk H
    clear H
    go_wp2_with (first | ((with_reducible refine gate_callee (f := 86) rfl ?_); refine goesL_ (some 17) rfl rfl Try.func86 (by kernel_rfl) rfl #[.slice A0 l0.length c0] rfl kz13_2 ?_; (with_reducible refine (tumbrelref09_Formed.calls k _ _ l0 true _ ?side1 ?side2 A6.out).mono ?_); (case side1 => repeat (first | exact (Kd.C_below HR0.out HB.out) | (with_reducible refine Kd.C_alloc ?_ _) | (with_reducible refine Kd.C_drewN ?_ _) | (with_reducible refine Kd.C_drew ?_))); (case side2 => exact HC0.out); rintro e w' ⟨rfl, ⟨nd, rfl⟩⟩; refine ⟨_, rfl, ?_⟩) | (go_at_call 87; (with_reducible refine (tumbrelref09_state.calls _ _ l0 a2 false _ ?side1 ?side2 A8.out).mono ?_); (case side1 => repeat (first | exact (Kd.C_below HR0.out kz13_1) | (with_reducible refine Kd.C_alloc ?_ _) | (with_reducible refine Kd.C_drewN ?_ _) | (with_reducible refine Kd.C_drew ?_))); (case side2 => exact HC0.out); rintro e w' ⟨rfl, ⟨nd, rfl⟩⟩))
    go_meet
    case rel => exact ⟨_, (true), kz13_7, H', ⟨by first | omega | exact Nat.le_refl _⟩, ⟨by repeat (first | (with_reducible first | exact HB.out | apply below_alloc | apply pw_below_drewN | apply below_drew1) | exact HB.out)⟩⟩
  ·replace c7 := Bool.eq_false_iff.mpr c7
   subst c7
   have H1 : (tumbrelref09_Move.j0 k l0 l1 a2 a3 true) = some (r1, r2, r3) := by rw [if_neg (show ¬ (false = true) by decide)] at H; exact H
   clear H
   have H := H1
   clear H1
   have H' := Aside0.mk H
   clear H
   go_wp2_with (first | ((with_reducible refine gate_callee (f := 86) rfl ?_); refine goesL_ (some 17) rfl rfl Try.func86 (by kernel_rfl) rfl #[.slice A0 l0.length c0] rfl kz13_2 ?_; (with_reducible refine (tumbrelref09_Formed.calls k _ _ l0 false _ ?side1 ?side2 A6.out).mono ?_); (case side1 => repeat (first | exact (Kd.C_below HR0.out HB.out) | (with_reducible refine Kd.C_alloc ?_ _) | (with_reducible refine Kd.C_drewN ?_ _) | (with_reducible refine Kd.C_drew ?_))); (case side2 => exact HC0.out); rintro e w' ⟨rfl, ⟨nd, rfl⟩⟩; refine ⟨_, rfl, ?_⟩))
   go_meet
   case rel => exact ⟨_, (true), kz13_7, H', ⟨by first | omega | exact Nat.le_refl _⟩, ⟨by repeat (first | (with_reducible first | exact HB.out | apply below_alloc | apply pw_below_drewN | apply below_drew1) | exact HB.out)⟩⟩
 case rest =>
  clear HC5
  try clear c1
  try clear p2
  try clear c5
  try clear c7
  try clear c8
  try clear c9
  obtain ⟨kq, x30_4, rfl, HA, HJ4, HB⟩ := hcut
  cases kq with
  | zero => exact absurd HA.out (by simp [tumbrelref09_Move.j0])
  | succ kj4 =>
   have H := HA.out
   clear HA
   simp only [tumbrelref09_Move.j0] at H
   by_cases c11 : x30_4 = true
   ·subst c11
    have H1 : (some (([] : List Int), ([] : List Int), ([] : List Int))) = some (r1, r2, r3) := by rw [if_pos rfl] at H; exact H
    clear H
    have H := H1
    clear H1
    simp only [Option.some.injEq, Prod.mk.injEq] at H
    obtain ⟨rfl, rfl, rfl⟩ := H
    go_wp2
    go_ret3
    exact ⟨_, _, _, by first | rfl | (simp [errW_none, errW_some] <;> rfl) | (simp [*, errW_none, errW_some] <;> rfl), by first | exact Kd.R_nil _ _ _ _ _ | exact Kd.N_nil _ _ _ _ _ | exact Kd.V_nil _ _ _ _ _ | exact Kd.Q_nil _ _ _ _ _ | exact Kd.S_nil _ _ _ _ _, by first | exact Kd.R_nil _ _ _ _ _ | exact Kd.N_nil _ _ _ _ _ | exact Kd.V_nil _ _ _ _ _ | exact Kd.Q_nil _ _ _ _ _ | exact Kd.S_nil _ _ _ _ _, by first | exact Kd.R_nil _ _ _ _ _ | exact Kd.N_nil _ _ _ _ _ | exact Kd.V_nil _ _ _ _ _ | exact Kd.Q_nil _ _ _ _ _ | exact Kd.S_nil _ _ _ _ _, by repeat (first | (with_reducible first | exact HB.out | apply below_alloc | apply pw_below_drewN | apply below_drew1) | exact HB.out)⟩
   ·replace c11 := Bool.eq_false_iff.mpr c11
    subst c11
    have H1 : ((tumbrelref09_Meet.f kj4 l0 a2 a3).bind fun t347 => ((tumbrelref09_Leave.f kj4 l0 l1 t347).bind fun t348 => ((tumbrelref09_Enter.f kj4 l0 t347 a3).bind fun t351 => (tumbrelref09_Move.l0 kj4 l1 t348 t351 ([] : List Int) (l0.length : Int) 0)))) = some (r1, r2, r3) := by rw [if_neg (show ¬ (false = true) by decide)] at H; exact H
    clear H
    have H := H1
    clear H1
    replace H := Option.bind_eq_some_iff.mp H
    obtain ⟨t347, A120, H⟩ := H
    replace H : ((tumbrelref09_Leave.f kj4 l0 l1 t347).bind fun t348 => ((tumbrelref09_Enter.f kj4 l0 t347 a3).bind fun t351 => (tumbrelref09_Move.l0 kj4 l1 t348 t351 ([] : List Int) (l0.length : Int) 0))) = some (r1, r2, r3) := H
    have A12 := Aside0.mk A120
    clear A120
    replace H := Option.bind_eq_some_iff.mp H
    obtain ⟨t348, A130, H⟩ := H
    replace H : ((tumbrelref09_Enter.f kj4 l0 t347 a3).bind fun t351 => (tumbrelref09_Move.l0 kj4 l1 t348 t351 ([] : List Int) (l0.length : Int) 0)) = some (r1, r2, r3) := H
    have A13 := Aside0.mk A130
    clear A130
    replace H := Option.bind_eq_some_iff.mp H
    obtain ⟨t351, A140, H⟩ := H
    replace H : (tumbrelref09_Move.l0 kj4 l1 t348 t351 ([] : List Int) (l0.length : Int) 0) = some (r1, r2, r3) := H
    have A14 := Aside0.mk A140
    clear A140
    have H' := Aside0.mk H
    clear H
    go_wp2_with (first | ((with_reducible refine gate_callee (f := 98) rfl ?_); refine goesL_ (some 34) rfl rfl Try.func98 (by kernel_rfl) rfl #[.slice A0 l0.length c0, .int .i64 a2, .int .i64 a3] rfl kz13_2 ?_; (with_reducible refine (tumbrelref09_Meet.calls kj4 _ _ l0 a2 a3 t347 _ ?side1 ?side2 A12.out).mono ?_); (case side1 => repeat (first | exact (Kd.C_below HR0.out HB.out) | (with_reducible refine Kd.C_alloc ?_ _) | (with_reducible refine Kd.C_drewN ?_ _) | (with_reducible refine Kd.C_drew ?_))); (case side2 => exact HC0.out); rintro e w' ⟨rfl, ⟨nd, rfl⟩⟩; refine ⟨_, rfl, ?_⟩) | ((with_reducible refine gate_callee (f := 54) rfl ?_); refine goesL_ (some 38) rfl rfl Try.func54 (by kernel_rfl) rfl #[.slice A0 l0.length c0, .slice A1 l1.length c1, .int .i64 t347] rfl kz13_2 ?_; (with_reducible refine (tumbrelref09_Leave.calls kj4 _ _ l0 _ _ l1 t347 t348 _ ?side1 ?side2 ?side3 ?side4 A13.out).mono ?_); (case side1 => repeat (first | exact (Kd.C_below HR0.out kz13_1) | (with_reducible refine Kd.C_alloc ?_ _) | (with_reducible refine Kd.C_drewN ?_ _) | (with_reducible refine Kd.C_drew ?_))); (case side2 => exact HC0.out); (case side3 => repeat (first | exact (Kd.C_below HR1.out kz13_1) | (with_reducible refine Kd.C_alloc ?_ _) | (with_reducible refine Kd.C_drewN ?_ _) | (with_reducible refine Kd.C_drew ?_))); (case side4 => exact HC1.out); rintro e w15 ⟨v349, rfl, ho0, hb⟩; refine ⟨_, rfl, ?_⟩; have n0_ := Aside0.mk (Kd.R_lower ho0 (below_size kz13_1)); have n1_ := Aside0.mk (below_step kz13_1 hb); clear HB; have HO350 := n0_; have HB := n1_; clear n0_ n1_; (try clear hb); (try clear hb2); (try clear hk); (try clear hi); (try clear ho0)) | ((with_reducible refine gate_callee (f := 52) rfl ?_); refine goesL_ (some 42) rfl rfl Try.func52 (by kernel_rfl) rfl #[.slice A0 l0.length c0, .int .i64 t347, .int .i64 a3] rfl kz13_2 ?_; (with_reducible refine (tumbrelref09_Enter.calls kj4 _ _ l0 t347 a3 t351 _ ?side1 ?side2 A14.out).mono ?_); (case side1 => repeat (first | exact (Kd.C_below HR0.out HB.out) | (with_reducible refine Kd.C_alloc ?_ _) | (with_reducible refine Kd.C_drewN ?_ _) | (with_reducible refine Kd.C_drew ?_))); (case side2 => exact HC0.out); rintro e w16 ⟨v352, rfl, ho0, hb⟩; refine ⟨_, rfl, ?_⟩; have n0_ := Aside0.mk (Kd.R_elder' (by (with_reducible repeat (first | apply Kd.R_alloc | apply Kd.R_drewN | apply Kd.R_drew)); exact HO350.out) (Kd.R_base ho0) hb); have n1_ := Aside0.mk (Kd.R_lower (Kd.R_new' ho0 (Kd.R_lt (by (with_reducible repeat (first | apply Kd.R_alloc | apply Kd.R_drewN | apply Kd.R_drew)); exact HO350.out))) (below_size kz13_1)); have n2_ := Aside0.mk (below_step kz13_1 hb); clear HO350; clear HB; have HO350 := n0_; have HO353 := n1_; have HB := n2_; clear n0_ n1_ n2_; (try clear hb); (try clear hb2); (try clear hk); (try clear hi); (try clear ho0)))
    go_loopg [14, 45] kj4 (fun kq v14 v45 w' => ∃ (x14_2 : List Int) (x45_2 : Int), v45 = .int .i64 x45_2 ∧ Aside0 (tumbrelref09_Move.l0 kq l1 t348 t351 x14_2 (l0.length : Int) x45_2 = some (r1, r2, r3)) ∧ Aside0 (kq ≤ kj4) ∧ Aside0 (Kd.R (Kd.int .i64) 3 w' w.heap.size (fun k_ => some k_ ≠ (v352 : Value).ownBlock ∧ some k_ ≠ (v14 : Value).ownBlock) v349 t348) ∧ Aside0 (Kd.R (Kd.int .i64) 3 w' w.heap.size (fun k_ => some k_ ≠ (v349 : Value).ownBlock ∧ some k_ ≠ (v14 : Value).ownBlock) v352 t351) ∧ Aside0 (Kd.R (Kd.int .i64) 3 w' w.heap.size (fun k_ => some k_ ≠ (v349 : Value).ownBlock ∧ some k_ ≠ (v352 : Value).ownBlock) v14 x14_2) ∧ Aside0 (Below w.heap.size w w'))
    case atStart => exact ⟨(([] : List Int)), (0), kz13_7, H', ⟨Nat.le_refl _⟩, ⟨by (with_reducible repeat (first | apply Kd.R_alloc | apply Kd.R_drewN | apply Kd.R_drew)); exact Kd.R_mono HO350.out (fun _ hk => ⟨hk.2, (by simp [Value.ownBlock])⟩)⟩, ⟨by (with_reducible repeat (first | apply Kd.R_alloc | apply Kd.R_drewN | apply Kd.R_drew)); exact Kd.R_mono HO353.out (fun _ hk => ⟨hk.2, (by simp [Value.ownBlock])⟩)⟩, ⟨by first | exact Kd.R_nil _ _ _ _ _ | exact Kd.N_nil _ _ _ _ _ | exact Kd.V_nil _ _ _ _ _ | exact Kd.Q_nil _ _ _ _ _ | exact Kd.S_nil _ _ _ _ _⟩, ⟨by repeat (first | (with_reducible first | exact HB.out | apply below_alloc | apply pw_below_drewN | apply below_drew1) | exact HB.out)⟩⟩
    case round =>
     clear H'
     try clear c1
     try clear p2
     try clear c5
     try clear c7
     try clear c8
     try clear c9
     try clear c11
     try clear p2
     obtain ⟨x14_2, x45_2, rfl, HA, HK2, HO_12, HO_13, HO_14, HB⟩ := hrel
     cases gk with
     | zero => exact absurd HA.out (by simp [tumbrelref09_Move.l0])
     | succ k2 =>
      have H := HA.out
      clear HA
      simp only [tumbrelref09_Move.l0] at H
      by_cases c17 : x45_2 < (l0.length : Int)
      ·rw [if_pos c17] at H
       have c17b0 : decide (x45_2 < (l0.length : Int)) = true := decide_eq_true c17
       clear c17
       replace H := Option.bind_eq_some_iff.mp H
       obtain ⟨t354, A180, H⟩ := H
       replace H : (if t354 = true then (if x14_2.length < 17592186044416 then (tumbrelref09_Move.l0 k2 l1 t348 t351 (x14_2 ++ [x45_2]) (l0.length : Int) (wrap64 (x45_2 + 1))) else (none)) else ((tumbrelref09_has.f k2 l1 x45_2).bind fun t358 => (if t358 = true then ((tumbrelref09_has.f k2 t348 x45_2).bind fun t359 => (if t359 = true then (tumbrelref09_Move.l0 k2 l1 t348 t351 x14_2 (l0.length : Int) (wrap64 (x45_2 + 1))) else (if x14_2.length < 17592186044416 then (tumbrelref09_Move.l0 k2 l1 t348 t351 (x14_2 ++ [x45_2]) (l0.length : Int) (wrap64 (x45_2 + 1))) else (none)))) else (tumbrelref09_Move.l0 k2 l1 t348 t351 x14_2 (l0.length : Int) (wrap64 (x45_2 + 1)))))) = some (r1, r2, r3) := H
       have A18 := Aside0.mk A180
       clear A180
       by_cases c19 : t354 = true
       ·subst c19
        have H1 : (if x14_2.length < 17592186044416 then (tumbrelref09_Move.l0 k2 l1 t348 t351 (x14_2 ++ [x45_2]) (l0.length : Int) (wrap64 (x45_2 + 1))) else (none)) = some (r1, r2, r3) := by rw [if_pos rfl] at H; exact H
        clear H
        have H := H1
        clear H1
        by_cases c20 : x14_2.length < 17592186044416
        ·rw [if_pos c20] at H
         have LMc20 := Aside0.mk c20
         clear c20
         obtain ⟨y355, hy355⟩ : ∃ y_ : List Int, y_ = (x14_2 ++ [x45_2]) := ⟨_, rfl⟩
         replace H : (tumbrelref09_Move.l0 k2 l1 t348 t351 y355 (l0.length : Int) (wrap64 (x45_2 + 1))) = some (r1, r2, r3) := by first | (rw [hy355]; with_reducible exact H) | (have H2_ := (Option.bind_some _ _).symm.trans H; rw [hy355]; with_reducible exact H2_) | (have H2_ := (Option.bind_some _ _).symm.trans H; with_reducible exact H2_) | with_reducible exact H | (rw [hy355]; exact H) | exact H
         have Ny355 := Aside0.mk hy355
         clear hy355
         have H' := Aside0.mk H
         clear H
         obtain ⟨Ao21, co21, eo21⟩ := Kd.R_slice HO_13.out
         subst eo21
         go_wp2_with (first | ((with_reducible refine gate_callee (f := 88) rfl ?_); refine goesL_ (some 50) rfl rfl Try.func88 (by kernel_rfl) rfl #[.slice Ao21 t351.length co21, .int .i64 x45_2] rfl kz13_2 ?_; (with_reducible refine (tumbrelref09_has.calls k2 _ _ t351 x45_2 true _ ?side1 ?side2 A18.out).mono ?_); (case side1 => repeat (first | exact (Kd.R_reads' HO_13.out).2.2 | (with_reducible refine Kd.C_alloc ?_ _) | (with_reducible refine Kd.C_drewN ?_ _) | (with_reducible refine Kd.C_drew ?_))); (case side2 => exact (Kd.R_reads' HO_13.out).2.1); rintro e w' ⟨rfl, ⟨nd, rfl⟩⟩; refine ⟨_, rfl, ?_⟩) | ((with_reducible refine gate_builtin (b := .append) (xs := #[.tmp 62, .tmp 64]) rfl ?_); at_builtin; refine Kd.R_append (Kd.int .i64) (w0 := w) w.heap.size rfl (.tmp 62) (.tmp 64) 65 3 (.int .i64 0) 8 rfl Try.underlying65 info3 rfl (by decide) (by omega) u14 x14_2 x45_2 [.int .i64 x45_2] (fun k_ => some k_ ≠ (v349 : Value).ownBlock ∧ some k_ ≠ (.slice Ao21 t351.length co21 : Value).ownBlock) (fun _ => False) rfl rfl ?aP (fun _ hk => hk.elim) ?aF ?aO ?aB ?aS ?aL ?_; (case aP => exact rfl); (case aB => exact kz13_1); (case aF => exact (fun k_ hk => ⟨Kd.fresh' (Kd.R_lt kz13_9) k_ hk, Kd.fresh' (Kd.R_lt kz13_8) k_ hk⟩)); (case aO => exact (by (with_reducible repeat (first | apply Kd.R_alloc | apply Kd.R_drewN | apply Kd.R_drew)); exact HO_14.out)); (case aS => exact (below_size kz13_1)); (case aL => have := LMc20.out; omega); intro v356 w22 ho hb hg hat; rw [← Ny355.out] at ho; have n0_ := Aside0.mk (Kd.R_after (ok := (fun k_ => some k_ ≠ (.slice Ao21 t351.length co21 : Value).ownBlock)) kz13_9 hg hat); have n1_ := Aside0.mk (Kd.R_after (ok := (fun k_ => some k_ ≠ (v349 : Value).ownBlock)) kz13_8 hg hat); have n2_ := Aside0.mk (hb); have n3_ := Aside0.mk (ho); clear HO_12; clear HO_13; clear HB; clear HO_14; have HO_12 := n0_; have HO_13 := n1_; have HB := n2_; have HO357 := n3_; clear n0_ n1_ n2_ n3_; clear ho hb hg hat))
         go_roundg k2
         case measure => have := HJ4.out; have := HK2.out; omega
         case rel => exact ⟨(y355), (wrap64 (x45_2 + 1)), kz13_7, H', ⟨by have := HJ4.out; have := HK2.out; omega⟩, ⟨by (with_reducible repeat (first | apply Kd.R_alloc | apply Kd.R_drewN | apply Kd.R_drew)); exact HO_12.out⟩, ⟨by (with_reducible repeat (first | apply Kd.R_alloc | apply Kd.R_drewN | apply Kd.R_drew)); exact HO_13.out⟩, ⟨by (with_reducible repeat (first | apply Kd.R_alloc | apply Kd.R_drewN | apply Kd.R_drew)); exact HO357.out⟩, ⟨by repeat (first | (with_reducible first | exact HB.out | apply below_alloc | apply pw_below_drewN | apply below_drew1) | exact HB.out)⟩⟩
        ·rw [if_neg c20] at H
         exact absurd H (by simp)
       ·replace c19 := Bool.eq_false_iff.mpr c19
        subst c19
        have H1 : ((tumbrelref09_has.f k2 l1 x45_2).bind fun t358 => (if t358 = true then ((tumbrelref09_has.f k2 t348 x45_2).bind fun t359 => (if t359 = true then (tumbrelref09_Move.l0 k2 l1 t348 t351 x14_2 (l0.length : Int) (wrap64 (x45_2 + 1))) else (if x14_2.length < 17592186044416 then (tumbrelref09_Move.l0 k2 l1 t348 t351 (x14_2 ++ [x45_2]) (l0.length : Int) (wrap64 (x45_2 + 1))) else (none)))) else (tumbrelref09_Move.l0 k2 l1 t348 t351 x14_2 (l0.length : Int) (wrap64 (x45_2 + 1))))) = some (r1, r2, r3) := by rw [if_neg (show ¬ (false = true) by decide)] at H; exact H
        clear H
        have H := H1
        clear H1
        replace H := Option.bind_eq_some_iff.mp H
        obtain ⟨t358, A230, H⟩ := H
        replace H : (if t358 = true then ((tumbrelref09_has.f k2 t348 x45_2).bind fun t359 => (if t359 = true then (tumbrelref09_Move.l0 k2 l1 t348 t351 x14_2 (l0.length : Int) (wrap64 (x45_2 + 1))) else (if x14_2.length < 17592186044416 then (tumbrelref09_Move.l0 k2 l1 t348 t351 (x14_2 ++ [x45_2]) (l0.length : Int) (wrap64 (x45_2 + 1))) else (none)))) else (tumbrelref09_Move.l0 k2 l1 t348 t351 x14_2 (l0.length : Int) (wrap64 (x45_2 + 1)))) = some (r1, r2, r3) := H
        have A23 := Aside0.mk A230
        clear A230
        by_cases c24 : t358 = true
        ·subst c24
         have H1 : ((tumbrelref09_has.f k2 t348 x45_2).bind fun t359 => (if t359 = true then (tumbrelref09_Move.l0 k2 l1 t348 t351 x14_2 (l0.length : Int) (wrap64 (x45_2 + 1))) else (if x14_2.length < 17592186044416 then (tumbrelref09_Move.l0 k2 l1 t348 t351 (x14_2 ++ [x45_2]) (l0.length : Int) (wrap64 (x45_2 + 1))) else (none)))) = some (r1, r2, r3) := by rw [if_pos rfl] at H; exact H
         clear H
         have H := H1
         clear H1
         replace H := Option.bind_eq_some_iff.mp H
         obtain ⟨t359, A250, H⟩ := H
         replace H : (if t359 = true then (tumbrelref09_Move.l0 k2 l1 t348 t351 x14_2 (l0.length : Int) (wrap64 (x45_2 + 1))) else (if x14_2.length < 17592186044416 then (tumbrelref09_Move.l0 k2 l1 t348 t351 (x14_2 ++ [x45_2]) (l0.length : Int) (wrap64 (x45_2 + 1))) else (none))) = some (r1, r2, r3) := H
         have A25 := Aside0.mk A250
         clear A250
         by_cases c26 : t359 = true
         ·subst c26
          have H1 : (tumbrelref09_Move.l0 k2 l1 t348 t351 x14_2 (l0.length : Int) (wrap64 (x45_2 + 1))) = some (r1, r2, r3) := by rw [if_pos rfl] at H; exact H
          clear H
          have H := H1
          clear H1
          have H' := Aside0.mk H
          clear H
          obtain ⟨Ao27, co27, eo27⟩ := Kd.R_slice HO_13.out
          subst eo27
          go_wp2_with (first | ((with_reducible refine gate_callee (f := 88) rfl ?_); refine goesL_ (some 50) rfl rfl Try.func88 (by kernel_rfl) rfl #[.slice Ao27 t351.length co27, .int .i64 x45_2] rfl kz13_2 ?_; (with_reducible refine (tumbrelref09_has.calls k2 _ _ t351 x45_2 false _ ?side1 ?side2 A18.out).mono ?_); (case side1 => repeat (first | exact (Kd.R_reads' HO_13.out).2.2 | (with_reducible refine Kd.C_alloc ?_ _) | (with_reducible refine Kd.C_drewN ?_ _) | (with_reducible refine Kd.C_drew ?_))); (case side2 => exact (Kd.R_reads' HO_13.out).2.1); rintro e w' ⟨rfl, ⟨nd, rfl⟩⟩; refine ⟨_, rfl, ?_⟩) | (go_at_call 88; (with_reducible refine (tumbrelref09_has.calls k2 _ _ l1 x45_2 true _ ?side1 ?side2 A23.out).mono ?_); (case side1 => repeat (first | exact (Kd.C_below HR1.out kz13_1) | (with_reducible refine Kd.C_alloc ?_ _) | (with_reducible refine Kd.C_drewN ?_ _) | (with_reducible refine Kd.C_drew ?_))); (case side2 => exact HC1.out); rintro e w' ⟨rfl, ⟨nd, rfl⟩⟩; obtain ⟨Ao28, co28, eo28⟩ := Kd.R_slice HO_12.out; subst eo28) | (go_at_call 88; (with_reducible refine (tumbrelref09_has.calls k2 _ _ t348 x45_2 true _ ?side1 ?side2 A25.out).mono ?_); (case side1 => repeat (first | exact (Kd.R_reads' HO_12.out).2.2 | (with_reducible refine Kd.C_alloc ?_ _) | (with_reducible refine Kd.C_drewN ?_ _) | (with_reducible refine Kd.C_drew ?_))); (case side2 => exact (Kd.R_reads' HO_12.out).2.1); rintro e w' ⟨rfl, ⟨nd, rfl⟩⟩))
          go_roundg k2
          case measure => have := HJ4.out; have := HK2.out; omega
          case rel => exact ⟨(x14_2), (wrap64 (x45_2 + 1)), kz13_7, H', ⟨by have := HJ4.out; have := HK2.out; omega⟩, ⟨by (with_reducible repeat (first | apply Kd.R_alloc | apply Kd.R_drewN | apply Kd.R_drew)); exact HO_12.out⟩, ⟨by (with_reducible repeat (first | apply Kd.R_alloc | apply Kd.R_drewN | apply Kd.R_drew)); exact HO_13.out⟩, ⟨by (with_reducible repeat (first | apply Kd.R_alloc | apply Kd.R_drewN | apply Kd.R_drew)); exact HO_14.out⟩, ⟨by repeat (first | (with_reducible first | exact HB.out | apply below_alloc | apply pw_below_drewN | apply below_drew1) | exact HB.out)⟩⟩
         ·replace c26 := Bool.eq_false_iff.mpr c26
          subst c26
          have H1 : (if x14_2.length < 17592186044416 then (tumbrelref09_Move.l0 k2 l1 t348 t351 (x14_2 ++ [x45_2]) (l0.length : Int) (wrap64 (x45_2 + 1))) else (none)) = some (r1, r2, r3) := by rw [if_neg (show ¬ (false = true) by decide)] at H; exact H
          clear H
          have H := H1
          clear H1
          by_cases c29 : x14_2.length < 17592186044416
          ·rw [if_pos c29] at H
           have LMc29 := Aside0.mk c29
           clear c29
           obtain ⟨y360, hy360⟩ : ∃ y_ : List Int, y_ = (x14_2 ++ [x45_2]) := ⟨_, rfl⟩
           replace H : (tumbrelref09_Move.l0 k2 l1 t348 t351 y360 (l0.length : Int) (wrap64 (x45_2 + 1))) = some (r1, r2, r3) := by first | (rw [hy360]; with_reducible exact H) | (have H2_ := (Option.bind_some _ _).symm.trans H; rw [hy360]; with_reducible exact H2_) | (have H2_ := (Option.bind_some _ _).symm.trans H; with_reducible exact H2_) | with_reducible exact H | (rw [hy360]; exact H) | exact H
           have Ny360 := Aside0.mk hy360
           clear hy360
           have H' := Aside0.mk H
           clear H
           obtain ⟨Ao30, co30, eo30⟩ := Kd.R_slice HO_13.out
           subst eo30
           go_wp2_with (first | ((with_reducible refine gate_callee (f := 88) rfl ?_); refine goesL_ (some 50) rfl rfl Try.func88 (by kernel_rfl) rfl #[.slice Ao30 t351.length co30, .int .i64 x45_2] rfl kz13_2 ?_; (with_reducible refine (tumbrelref09_has.calls k2 _ _ t351 x45_2 false _ ?side1 ?side2 A18.out).mono ?_); (case side1 => repeat (first | exact (Kd.R_reads' HO_13.out).2.2 | (with_reducible refine Kd.C_alloc ?_ _) | (with_reducible refine Kd.C_drewN ?_ _) | (with_reducible refine Kd.C_drew ?_))); (case side2 => exact (Kd.R_reads' HO_13.out).2.1); rintro e w' ⟨rfl, ⟨nd, rfl⟩⟩; refine ⟨_, rfl, ?_⟩) | (go_at_call 88; (with_reducible refine (tumbrelref09_has.calls k2 _ _ l1 x45_2 true _ ?side1 ?side2 A23.out).mono ?_); (case side1 => repeat (first | exact (Kd.C_below HR1.out kz13_1) | (with_reducible refine Kd.C_alloc ?_ _) | (with_reducible refine Kd.C_drewN ?_ _) | (with_reducible refine Kd.C_drew ?_))); (case side2 => exact HC1.out); rintro e w' ⟨rfl, ⟨nd, rfl⟩⟩; obtain ⟨Ao31, co31, eo31⟩ := Kd.R_slice HO_12.out; subst eo31) | (go_at_call 88; (with_reducible refine (tumbrelref09_has.calls k2 _ _ t348 x45_2 false _ ?side1 ?side2 A25.out).mono ?_); (case side1 => repeat (first | exact (Kd.R_reads' HO_12.out).2.2 | (with_reducible refine Kd.C_alloc ?_ _) | (with_reducible refine Kd.C_drewN ?_ _) | (with_reducible refine Kd.C_drew ?_))); (case side2 => exact (Kd.R_reads' HO_12.out).2.1); rintro e w' ⟨rfl, ⟨nd, rfl⟩⟩) | ((with_reducible refine gate_builtin (b := .append) (xs := #[.tmp 62, .tmp 64]) rfl ?_); at_builtin; refine Kd.R_append (Kd.int .i64) (w0 := w) w.heap.size rfl (.tmp 62) (.tmp 64) 65 3 (.int .i64 0) 8 rfl Try.underlying65 info3 rfl (by decide) (by omega) u14 x14_2 x45_2 [.int .i64 x45_2] (fun k_ => some k_ ≠ (.slice Ao31 t348.length co31 : Value).ownBlock ∧ some k_ ≠ (.slice Ao30 t351.length co30 : Value).ownBlock) (fun _ => False) rfl rfl ?aP (fun _ hk => hk.elim) ?aF ?aO ?aB ?aS ?aL ?_; (case aP => exact rfl); (case aB => exact kz13_1); (case aF => exact (fun k_ hk => ⟨Kd.fresh' (Kd.R_lt kz13_9) k_ hk, Kd.fresh' (Kd.R_lt kz13_8) k_ hk⟩)); (case aO => exact (by (with_reducible repeat (first | apply Kd.R_alloc | apply Kd.R_drewN | apply Kd.R_drew)); exact HO_14.out)); (case aS => exact (below_size kz13_1)); (case aL => have := LMc29.out; omega); intro v361 w32 ho hb hg hat; rw [← Ny360.out] at ho; have n0_ := Aside0.mk (Kd.R_after (ok := (fun k_ => some k_ ≠ (.slice Ao30 t351.length co30 : Value).ownBlock)) kz13_9 hg hat); have n1_ := Aside0.mk (Kd.R_after (ok := (fun k_ => some k_ ≠ (.slice Ao31 t348.length co31 : Value).ownBlock)) kz13_8 hg hat); have n2_ := Aside0.mk (hb); have n3_ := Aside0.mk (ho); clear HO_12; clear HO_13; clear HB; clear HO_14; have HO_12 := n0_; have HO_13 := n1_; have HB := n2_; have HO362 := n3_; clear n0_ n1_ n2_ n3_; clear ho hb hg hat))
           go_roundg k2
           case measure => have := HJ4.out; have := HK2.out; omega
           case rel => exact ⟨(y360), (wrap64 (x45_2 + 1)), kz13_7, H', ⟨by have := HJ4.out; have := HK2.out; omega⟩, ⟨by (with_reducible repeat (first | apply Kd.R_alloc | apply Kd.R_drewN | apply Kd.R_drew)); exact HO_12.out⟩, ⟨by (with_reducible repeat (first | apply Kd.R_alloc | apply Kd.R_drewN | apply Kd.R_drew)); exact HO_13.out⟩, ⟨by (with_reducible repeat (first | apply Kd.R_alloc | apply Kd.R_drewN | apply Kd.R_drew)); exact HO362.out⟩, ⟨by repeat (first | (with_reducible first | exact HB.out | apply below_alloc | apply pw_below_drewN | apply below_drew1) | exact HB.out)⟩⟩
          ·rw [if_neg c29] at H
           exact absurd H (by simp)
        ·replace c24 := Bool.eq_false_iff.mpr c24
         subst c24
         have H1 : (tumbrelref09_Move.l0 k2 l1 t348 t351 x14_2 (l0.length : Int) (wrap64 (x45_2 + 1))) = some (r1, r2, r3) := by rw [if_neg (show ¬ (false = true) by decide)] at H; exact H
         clear H
         have H := H1
         clear H1
         have H' := Aside0.mk H
         clear H
         obtain ⟨Ao33, co33, eo33⟩ := Kd.R_slice HO_13.out
         subst eo33
         go_wp2_with (first | ((with_reducible refine gate_callee (f := 88) rfl ?_); refine goesL_ (some 50) rfl rfl Try.func88 (by kernel_rfl) rfl #[.slice Ao33 t351.length co33, .int .i64 x45_2] rfl kz13_2 ?_; (with_reducible refine (tumbrelref09_has.calls k2 _ _ t351 x45_2 false _ ?side1 ?side2 A18.out).mono ?_); (case side1 => repeat (first | exact (Kd.R_reads' HO_13.out).2.2 | (with_reducible refine Kd.C_alloc ?_ _) | (with_reducible refine Kd.C_drewN ?_ _) | (with_reducible refine Kd.C_drew ?_))); (case side2 => exact (Kd.R_reads' HO_13.out).2.1); rintro e w' ⟨rfl, ⟨nd, rfl⟩⟩; refine ⟨_, rfl, ?_⟩) | (go_at_call 88; (with_reducible refine (tumbrelref09_has.calls k2 _ _ l1 x45_2 false _ ?side1 ?side2 A23.out).mono ?_); (case side1 => repeat (first | exact (Kd.C_below HR1.out kz13_1) | (with_reducible refine Kd.C_alloc ?_ _) | (with_reducible refine Kd.C_drewN ?_ _) | (with_reducible refine Kd.C_drew ?_))); (case side2 => exact HC1.out); rintro e w' ⟨rfl, ⟨nd, rfl⟩⟩))
         go_roundg k2
         case measure => have := HJ4.out; have := HK2.out; omega
         case rel => exact ⟨(x14_2), (wrap64 (x45_2 + 1)), kz13_7, H', ⟨by have := HJ4.out; have := HK2.out; omega⟩, ⟨by (with_reducible repeat (first | apply Kd.R_alloc | apply Kd.R_drewN | apply Kd.R_drew)); exact HO_12.out⟩, ⟨by (with_reducible repeat (first | apply Kd.R_alloc | apply Kd.R_drewN | apply Kd.R_drew)); exact HO_13.out⟩, ⟨by (with_reducible repeat (first | apply Kd.R_alloc | apply Kd.R_drewN | apply Kd.R_drew)); exact HO_14.out⟩, ⟨by repeat (first | (with_reducible first | exact HB.out | apply below_alloc | apply pw_below_drewN | apply below_drew1) | exact HB.out)⟩⟩
      ·rw [if_neg c17] at H
       have c17b0 : decide (x45_2 < (l0.length : Int)) = false := decide_eq_false c17
       clear c17
       simp only [Option.some.injEq, Prod.mk.injEq] at H
       obtain ⟨rfl, rfl, rfl⟩ := H
       go_wp2
       go_ret3
       exact ⟨_, _, _, by first | rfl | (simp [errW_none, errW_some] <;> rfl) | (simp [*, errW_none, errW_some] <;> rfl), by (with_reducible repeat (first | apply Kd.R_alloc | apply Kd.R_drewN | apply Kd.R_drew)); exact HO_12.out, by (with_reducible repeat (first | apply Kd.R_alloc | apply Kd.R_drewN | apply Kd.R_drew)); exact HO_13.out, by (with_reducible repeat (first | apply Kd.R_alloc | apply Kd.R_drewN | apply Kd.R_drew)); exact HO_14.out, by repeat (first | (with_reducible first | exact HB.out | apply below_alloc | apply pw_below_drewN | apply below_drew1) | exact HB.out)⟩

/-! ### tumbrellaw10_ConfigMoves: function 10 -/
def tumbrellaw10_ConfigMoves.j0 : Nat → List (S140) → List Int → Int → Int → Bool → Option (Bool)
 | 0, _, _, _, _, _ => none
 | k + 1, x0, x1, x2, x3, x22 => if x22 = true then ((tumbrellaw10_awake.f k).bind fun t365 => (some t365)) else ((tumbrellaw09_Theirs.f k x0).bind fun t366 => ((config_Move.f k t366 x1 x2 x3).bind fun bt369 => ((tumbrelref09_Move.f k x0 x1 x2 x3).bind fun bt378 => ((tumbrelref09_Ints.f k bt369.1 bt378.1).bind fun t387 => (if t387 = true then ((tumbrelref09_Ints.f k bt369.2.1 bt378.2.1).bind fun t388 => (if t388 = true then ((tumbrelref09_Ints.f k bt369.2.2 bt378.2.2).bind fun t389 => (some t389)) else (some false))) else (some false))))))
def tumbrellaw10_ConfigMoves.f (k : Nat) (l0 : List (S140)) (l1 : List Int) (a2 : Int) (a3 : Int) : Option (Bool) := (tumbrellaw10_awake.f k).bind fun t363 => (if t363 = true then ((tumbrellaw10_few.f k l0 l1).bind fun t364 => (tumbrellaw10_ConfigMoves.j0 k l0 l1 a2 a3 (!t364))) else (tumbrellaw10_ConfigMoves.j0 k l0 l1 a2 a3 true))
theorem tumbrellaw10_ConfigMoves.mono_l : ∀ k, (∀ y0 y1 y2 y3 y4, LeO (tumbrellaw10_ConfigMoves.j0 k y0 y1 y2 y3 y4) (tumbrellaw10_ConfigMoves.j0 (k + 1) y0 y1 y2 y3 y4))
 | 0 => fun _ _ _ _ _ r h => by simp [tumbrellaw10_ConfigMoves.j0] at h
 | k + 1 => by
  have ih0 := tumbrellaw10_ConfigMoves.mono_l k
  ·intro y0 y1 y2 y3 y4
   unfold tumbrellaw10_ConfigMoves.j0
   repeat' first
   | (with_reducible exact ih0 _ _ _ _ _)
   | (with_reducible exact config_Move.mono _ _ _ _ _)
   | (with_reducible exact tumbrellaw09_Theirs.mono _ _)
   | (with_reducible exact tumbrellaw10_awake.mono _)
   | (with_reducible exact tumbrellaw10_few.mono _ _ _)
   | (with_reducible exact tumbrelref09_Ints.mono _ _ _)
   | (with_reducible exact tumbrelref09_Move.mono _ _ _ _ _)
   | (with_reducible exact LeO.refl _)
   | (with_reducible exact LeO.none _)
   | (with_reducible refine LeO.ite ?_ ?_)
   | (with_reducible refine LeO.bind ?_ (fun _ => ?_))
   | exact ih0 _ _ _ _ _
   | exact config_Move.mono _ _ _ _ _
   | exact tumbrellaw09_Theirs.mono _ _
   | exact tumbrellaw10_awake.mono _
   | exact tumbrellaw10_few.mono _ _ _
   | exact tumbrelref09_Ints.mono _ _ _
   | exact tumbrelref09_Move.mono _ _ _ _ _
   | exact LeO.none _
   | refine LeO.ite ?_ ?_
   | refine LeO.bind ?_ (fun _ => ?_)
theorem tumbrellaw10_ConfigMoves.mono : ∀ a0 a1 a2 a3 k, LeO (tumbrellaw10_ConfigMoves.f k a0 a1 a2 a3) (tumbrellaw10_ConfigMoves.f (k + 1) a0 a1 a2 a3) := by
 intro a0 a1 a2 a3 k
 have ih0 := tumbrellaw10_ConfigMoves.mono_l k
 unfold tumbrellaw10_ConfigMoves.f
 repeat' first
   | (with_reducible exact ih0 _ _ _ _ _)
   | (with_reducible exact config_Move.mono _ _ _ _ _)
   | (with_reducible exact tumbrellaw09_Theirs.mono _ _)
   | (with_reducible exact tumbrellaw10_awake.mono _)
   | (with_reducible exact tumbrellaw10_few.mono _ _ _)
   | (with_reducible exact tumbrelref09_Ints.mono _ _ _)
   | (with_reducible exact tumbrelref09_Move.mono _ _ _ _ _)
   | (with_reducible exact LeO.refl _)
   | (with_reducible exact LeO.none _)
   | (with_reducible refine LeO.ite ?_ ?_)
   | (with_reducible refine LeO.bind ?_ (fun _ => ?_))
   | exact ih0 _ _ _ _ _
   | exact config_Move.mono _ _ _ _ _
   | exact tumbrellaw09_Theirs.mono _ _
   | exact tumbrellaw10_awake.mono _
   | exact tumbrellaw10_few.mono _ _ _
   | exact tumbrelref09_Ints.mono _ _ _
   | exact tumbrelref09_Move.mono _ _ _ _ _
   | exact LeO.none _
   | refine LeO.ite ?_ ?_
   | refine LeO.bind ?_ (fun _ => ?_)
set_option maxHeartbeats 8000000 in
set_option maxRecDepth 100000 in
theorem tumbrellaw10_ConfigMoves.calls (k : Nat) (A0 : Option Addr) (c0 : Nat) (l0 : List (S140)) (A1 : Option Addr) (c1 : Nat) (l1 : List Int) (a2 : Int) (a3 : Int) (r : Bool) (w : World) (hr0 : Kd.C k140 w A0 l0.length l0) (hc0 : l0.length ≤ c0) (hr1 : Kd.C (Kd.int .i64) w A1 l1.length l1) (hc1 : l1.length ≤ c1) (h : tumbrellaw10_ConfigMoves.f k l0 l1 a2 a3 = some r) :
  Calls Try.prog 10 #[.slice A0 l0.length c0, .slice A1 l1.length c1, .int .i64 a2, .int .i64 a3] w fun e w' => e = .returned (.bool r) ∧ Below w.heap.size w w' := by
 have HR0 := Aside0.mk hr0
 have HC0 := Aside0.mk hc0
 clear hr0 hc0
 have HR1 := Aside0.mk hr1
 have HC1 := Aside0.mk hc1
 clear hr1 hc1
 have HB := Aside0.mk (Below.refl w.heap.size w)
 have H : ((tumbrellaw10_awake.f k).bind fun t363 => (if t363 = true then ((tumbrellaw10_few.f k l0 l1).bind fun t364 => (tumbrellaw10_ConfigMoves.j0 k l0 l1 a2 a3 (!t364))) else (tumbrellaw10_ConfigMoves.j0 k l0 l1 a2 a3 true))) = some r := h
 clear h
 have HC5 := Aside0.mk H
 clear H
 go_enter Try.func10, Try.ntmps10
 go_upto_region 1 with (fail)
 go_cut [22] (fun v22 wc => ∃ (kq : Nat) (x22_4 : Bool), v22 = .bool x22_4 ∧ Aside0 (tumbrellaw10_ConfigMoves.j0 kq l0 l1 a2 a3 x22_4 = some r) ∧ Aside0 (kq ≤ k) ∧ Aside0 (Below w.heap.size w wc))
 case first =>
  have H := HC5.out
  clear HC5
  replace H := Option.bind_eq_some_iff.mp H
  obtain ⟨t363, A60, H⟩ := H
  replace H : (if t363 = true then ((tumbrellaw10_few.f k l0 l1).bind fun t364 => (tumbrellaw10_ConfigMoves.j0 k l0 l1 a2 a3 (!t364))) else (tumbrellaw10_ConfigMoves.j0 k l0 l1 a2 a3 true)) = some r := H
  have A6 := Aside0.mk A60
  clear A60
  by_cases c7 : t363 = true
  ·subst c7
   have H1 : ((tumbrellaw10_few.f k l0 l1).bind fun t364 => (tumbrellaw10_ConfigMoves.j0 k l0 l1 a2 a3 (!t364))) = some r := by rw [if_pos rfl] at H; exact H
   clear H
   have H := H1
   clear H1
   replace H := Option.bind_eq_some_iff.mp H
   obtain ⟨t364, A80, H⟩ := H
   replace H : (tumbrellaw10_ConfigMoves.j0 k l0 l1 a2 a3 (!t364)) = some r := H
   have A8 := Aside0.mk A80
   clear A80
   have H' := Aside0.mk H
   clear H
   go_wp2_with (first | ((with_reducible refine gate_callee (f := 41) rfl ?_); refine goesL_ (some 15) rfl rfl Try.func41 (by kernel_rfl) rfl #[] rfl kz13_2 ?_; (with_reducible refine (tumbrellaw10_awake.calls k  true _ A6.out).mono ?_); rintro e w9 ⟨rfl, hb⟩; refine ⟨_, rfl, ?_⟩; have n0_ := Aside0.mk (below_step kz13_1 hb); clear HB; have HB := n0_; clear n0_; (try clear hb); (try clear hb2); (try clear hk); (try clear hi)) | (go_at_call 42; (with_reducible refine (tumbrellaw10_few.calls k _ _ l0 _ _ l1 t364 _ ?side1 ?side2 ?side3 ?side4 A8.out).mono ?_); (case side1 => repeat (first | exact (Kd.C_below HR0.out HB.out) | (with_reducible refine Kd.C_alloc ?_ _) | (with_reducible refine Kd.C_drewN ?_ _) | (with_reducible refine Kd.C_drew ?_))); (case side2 => exact HC0.out); (case side3 => repeat (first | exact (Kd.C_below HR1.out HB.out) | (with_reducible refine Kd.C_alloc ?_ _) | (with_reducible refine Kd.C_drewN ?_ _) | (with_reducible refine Kd.C_drew ?_))); (case side4 => exact HC1.out); rintro e w' ⟨rfl, ⟨nd, rfl⟩⟩))
   go_meet
   case rel => exact ⟨_, (!t364), kz13_7, H', ⟨by first | omega | exact Nat.le_refl _⟩, ⟨by repeat (first | (with_reducible first | exact HB.out | apply below_alloc | apply pw_below_drewN | apply below_drew1) | exact HB.out)⟩⟩
  ·replace c7 := Bool.eq_false_iff.mpr c7
   subst c7
   have H1 : (tumbrellaw10_ConfigMoves.j0 k l0 l1 a2 a3 true) = some r := by rw [if_neg (show ¬ (false = true) by decide)] at H; exact H
   clear H
   have H := H1
   clear H1
   have H' := Aside0.mk H
   clear H
   go_wp2_with (first | ((with_reducible refine gate_callee (f := 41) rfl ?_); refine goesL_ (some 15) rfl rfl Try.func41 (by kernel_rfl) rfl #[] rfl kz13_2 ?_; (with_reducible refine (tumbrellaw10_awake.calls k  false _ A6.out).mono ?_); rintro e w10 ⟨rfl, hb⟩; refine ⟨_, rfl, ?_⟩; have n0_ := Aside0.mk (below_step kz13_1 hb); clear HB; have HB := n0_; clear n0_; (try clear hb); (try clear hb2); (try clear hk); (try clear hi)))
   go_meet
   case rel => exact ⟨_, (true), kz13_7, H', ⟨by first | omega | exact Nat.le_refl _⟩, ⟨by repeat (first | (with_reducible first | exact HB.out | apply below_alloc | apply pw_below_drewN | apply below_drew1) | exact HB.out)⟩⟩
 case rest =>
  clear HC5
  try clear c1
  try clear p2
  try clear c4
  try clear c7
  try clear c10
  obtain ⟨kq, x22_4, rfl, HA, HJ4, HB⟩ := hcut
  cases kq with
  | zero => exact absurd HA.out (by simp [tumbrellaw10_ConfigMoves.j0])
  | succ kj4 =>
   have H := HA.out
   clear HA
   simp only [tumbrellaw10_ConfigMoves.j0] at H
   by_cases c11 : x22_4 = true
   ·subst c11
    have H1 : ((tumbrellaw10_awake.f kj4).bind fun t365 => (some t365)) = some r := by rw [if_pos rfl] at H; exact H
    clear H
    have H := H1
    clear H1
    replace H := Option.bind_eq_some_iff.mp H
    obtain ⟨t365, A120, H⟩ := H
    replace H : (some t365) = some r := H
    have A12 := Aside0.mk A120
    clear A120
    obtain rfl := Option.some.inj H
    go_wp2_with (first | ((with_reducible refine gate_callee (f := 41) rfl ?_); refine goesL_ (some 23) rfl rfl Try.func41 (by kernel_rfl) rfl #[] rfl kz13_2 ?_; (with_reducible refine (tumbrellaw10_awake.calls kj4  t365 _ A12.out).mono ?_); rintro e w13 ⟨rfl, hb⟩; refine ⟨_, rfl, ?_⟩; have n0_ := Aside0.mk (below_step kz13_1 hb); clear HB; have HB := n0_; clear n0_; (try clear hb); (try clear hb2); (try clear hk); (try clear hi)))
    go_ret
    exact ⟨by first | rfl | (simp [errW_none, errW_some] <;> rfl) | (simp [*, errW_none, errW_some] <;> rfl), by repeat (first | (with_reducible first | exact HB.out | apply below_alloc | apply pw_below_drewN | apply below_drew1) | exact HB.out)⟩
   ·replace c11 := Bool.eq_false_iff.mpr c11
    subst c11
    have H1 : ((tumbrellaw09_Theirs.f kj4 l0).bind fun t366 => ((config_Move.f kj4 t366 l1 a2 a3).bind fun bt369 => ((tumbrelref09_Move.f kj4 l0 l1 a2 a3).bind fun bt378 => ((tumbrelref09_Ints.f kj4 bt369.1 bt378.1).bind fun t387 => (if t387 = true then ((tumbrelref09_Ints.f kj4 bt369.2.1 bt378.2.1).bind fun t388 => (if t388 = true then ((tumbrelref09_Ints.f kj4 bt369.2.2 bt378.2.2).bind fun t389 => (some t389)) else (some false))) else (some false)))))) = some r := by rw [if_neg (show ¬ (false = true) by decide)] at H; exact H
    clear H
    have H := H1
    clear H1
    replace H := Option.bind_eq_some_iff.mp H
    obtain ⟨t366, A140, H⟩ := H
    replace H : ((config_Move.f kj4 t366 l1 a2 a3).bind fun bt369 => ((tumbrelref09_Move.f kj4 l0 l1 a2 a3).bind fun bt378 => ((tumbrelref09_Ints.f kj4 bt369.1 bt378.1).bind fun t387 => (if t387 = true then ((tumbrelref09_Ints.f kj4 bt369.2.1 bt378.2.1).bind fun t388 => (if t388 = true then ((tumbrelref09_Ints.f kj4 bt369.2.2 bt378.2.2).bind fun t389 => (some t389)) else (some false))) else (some false))))) = some r := H
    have A14 := Aside0.mk A140
    clear A140
    replace H := Option.bind_eq_some_iff.mp H
    obtain ⟨⟨t369, t370, t371⟩, A150, H⟩ := H
    replace H : ((tumbrelref09_Move.f kj4 l0 l1 a2 a3).bind fun bt378 => ((tumbrelref09_Ints.f kj4 t369 bt378.1).bind fun t387 => (if t387 = true then ((tumbrelref09_Ints.f kj4 t370 bt378.2.1).bind fun t388 => (if t388 = true then ((tumbrelref09_Ints.f kj4 t371 bt378.2.2).bind fun t389 => (some t389)) else (some false))) else (some false)))) = some r := H
    have A15 := Aside0.mk A150
    clear A150
    replace H := Option.bind_eq_some_iff.mp H
    obtain ⟨⟨t378, t379, t380⟩, A160, H⟩ := H
    replace H : ((tumbrelref09_Ints.f kj4 t369 t378).bind fun t387 => (if t387 = true then ((tumbrelref09_Ints.f kj4 t370 t379).bind fun t388 => (if t388 = true then ((tumbrelref09_Ints.f kj4 t371 t380).bind fun t389 => (some t389)) else (some false))) else (some false))) = some r := H
    have A16 := Aside0.mk A160
    clear A160
    replace H := Option.bind_eq_some_iff.mp H
    obtain ⟨t387, A170, H⟩ := H
    replace H : (if t387 = true then ((tumbrelref09_Ints.f kj4 t370 t379).bind fun t388 => (if t388 = true then ((tumbrelref09_Ints.f kj4 t371 t380).bind fun t389 => (some t389)) else (some false))) else (some false)) = some r := H
    have A17 := Aside0.mk A170
    clear A170
    by_cases c18 : t387 = true
    ·subst c18
     have H1 : ((tumbrelref09_Ints.f kj4 t370 t379).bind fun t388 => (if t388 = true then ((tumbrelref09_Ints.f kj4 t371 t380).bind fun t389 => (some t389)) else (some false))) = some r := by rw [if_pos rfl] at H; exact H
     clear H
     have H := H1
     clear H1
     replace H := Option.bind_eq_some_iff.mp H
     obtain ⟨t388, A190, H⟩ := H
     replace H : (if t388 = true then ((tumbrelref09_Ints.f kj4 t371 t380).bind fun t389 => (some t389)) else (some false)) = some r := H
     have A19 := Aside0.mk A190
     clear A190
     by_cases c20 : t388 = true
     ·subst c20
      have H1 : ((tumbrelref09_Ints.f kj4 t371 t380).bind fun t389 => (some t389)) = some r := by rw [if_pos rfl] at H; exact H
      clear H
      have H := H1
      clear H1
      replace H := Option.bind_eq_some_iff.mp H
      obtain ⟨t389, A210, H⟩ := H
      replace H : (some t389) = some r := H
      have A21 := Aside0.mk A210
      clear A210
      obtain rfl := Option.some.inj H
      go_wp2_with (first | ((with_reducible refine gate_callee (f := 43) rfl ?_); refine goesL_ (some 26) rfl rfl Try.func43 (by kernel_rfl) rfl #[.slice A0 l0.length c0] rfl kz13_2 ?_; (with_reducible refine (tumbrellaw09_Theirs.calls kj4 _ _ l0 t366 _ ?side1 ?side2 A14.out).mono ?_); (case side1 => repeat (first | exact (Kd.C_below HR0.out HB.out) | (with_reducible refine Kd.C_alloc ?_ _) | (with_reducible refine Kd.C_drewN ?_ _) | (with_reducible refine Kd.C_drew ?_))); (case side2 => exact HC0.out); rintro e w22 ⟨v367, rfl, ho0, hb⟩; refine ⟨_, rfl, ?_⟩; have n0_ := Aside0.mk (Kd.R_lower ho0 (below_size kz13_1)); have n1_ := Aside0.mk (below_step kz13_1 hb); clear HB; have HO368 := n0_; have HB := n1_; clear n0_ n1_; (try clear hb); (try clear hb2); (try clear hk); (try clear hi); (try clear ho0); obtain ⟨Ao23, co23, eo23⟩ := Kd.R_slice HO368.out; subst eo23) | ((with_reducible refine gate_callee (f := 57) rfl ?_); refine goesL_ (some 30) rfl rfl Try.func57 (by kernel_rfl) rfl #[.slice Ao23 t366.length co23, .slice A1 l1.length c1, .int .i64 a2, .int .i64 a3] rfl kz13_2 ?_; (with_reducible refine (config_Move.calls kj4 _ _ t366 _ _ l1 a2 a3 t369 t370 t371 _ ?side1 ?side2 ?side3 ?side4 A15.out).mono ?_); (case side1 => repeat (first | exact (Kd.R_reads' HO368.out).2.2 | (with_reducible refine Kd.C_alloc ?_ _) | (with_reducible refine Kd.C_drewN ?_ _) | (with_reducible refine Kd.C_drew ?_))); (case side2 => exact (Kd.R_reads' HO368.out).2.1); (case side3 => repeat (first | exact (Kd.C_below HR1.out HB.out) | (with_reducible refine Kd.C_alloc ?_ _) | (with_reducible refine Kd.C_drewN ?_ _) | (with_reducible refine Kd.C_drew ?_))); (case side4 => exact HC1.out); rintro e w24 ⟨v372, v374, v376, rfl, ho0, ho1, ho2, hb⟩; refine ⟨_, rfl, ?_⟩; have n0_ := Aside0.mk (Kd.R_below kz13_6 hb); have n1_ := Aside0.mk (Kd.R_lower ho0 (below_size kz13_1)); have n2_ := Aside0.mk (Kd.R_lower ho1 (below_size kz13_1)); have n3_ := Aside0.mk (Kd.R_lower ho2 (below_size kz13_1)); have n4_ := Aside0.mk (below_step kz13_1 hb); clear HO368; clear HB; have HO368 := n0_; have HO373 := n1_; have HO375 := n2_; have HO377 := n3_; have HB := n4_; clear n0_ n1_ n2_ n3_ n4_; (try clear hb); (try clear hb2); (try clear hk); (try clear hi); (try clear ho0); (try clear ho1); (try clear ho2)) | ((with_reducible refine gate_callee (f := 58) rfl ?_); refine goesL_ (some 39) rfl rfl Try.func58 (by kernel_rfl) rfl #[.slice A0 l0.length c0, .slice A1 l1.length c1, .int .i64 a2, .int .i64 a3] rfl kz13_2 ?_; (with_reducible refine (tumbrelref09_Move.calls kj4 _ _ l0 _ _ l1 a2 a3 t378 t379 t380 _ ?side1 ?side2 ?side3 ?side4 A16.out).mono ?_); (case side1 => repeat (first | exact (Kd.C_below HR0.out HB.out) | (with_reducible refine Kd.C_alloc ?_ _) | (with_reducible refine Kd.C_drewN ?_ _) | (with_reducible refine Kd.C_drew ?_))); (case side2 => exact HC0.out); (case side3 => repeat (first | exact (Kd.C_below HR1.out HB.out) | (with_reducible refine Kd.C_alloc ?_ _) | (with_reducible refine Kd.C_drewN ?_ _) | (with_reducible refine Kd.C_drew ?_))); (case side4 => exact HC1.out); rintro e w25 ⟨v381, v383, v385, rfl, ho0, ho1, ho2, hb⟩; refine ⟨_, rfl, ?_⟩; have n0_ := Aside0.mk (Kd.R_below kz13_6 hb); have n1_ := Aside0.mk (Kd.R_mono (Kd.R_told (Kd.R_told (Kd.R_told (Kd.R_old kz13_5 hb) (Kd.R_base ho0)) (Kd.R_base ho1)) (Kd.R_base ho2)) (fun _ h_ => h_.1)); have n2_ := Aside0.mk (Kd.R_mono (Kd.R_told (Kd.R_told (Kd.R_told (Kd.R_old kz13_4 hb) (Kd.R_base ho0)) (Kd.R_base ho1)) (Kd.R_base ho2)) (fun _ h_ => h_.1)); have n3_ := Aside0.mk (Kd.R_mono (Kd.R_told (Kd.R_told (Kd.R_told (Kd.R_old kz13_3 hb) (Kd.R_base ho0)) (Kd.R_base ho1)) (Kd.R_base ho2)) (fun _ h_ => h_.1)); have n4_ := Aside0.mk (Kd.R_lower (Kd.R_new' (Kd.R_new' (Kd.R_new' ho0 (Kd.R_lt kz13_5)) (Kd.R_lt kz13_4)) (Kd.R_lt kz13_3)) (below_size kz13_1)); have n5_ := Aside0.mk (Kd.R_lower (Kd.R_new' (Kd.R_new' (Kd.R_new' ho1 (Kd.R_lt kz13_5)) (Kd.R_lt kz13_4)) (Kd.R_lt kz13_3)) (below_size kz13_1)); have n6_ := Aside0.mk (Kd.R_lower (Kd.R_new' (Kd.R_new' (Kd.R_new' ho2 (Kd.R_lt kz13_5)) (Kd.R_lt kz13_4)) (Kd.R_lt kz13_3)) (below_size kz13_1)); have n7_ := Aside0.mk (below_step kz13_1 hb); clear HO368; clear HO373; clear HO375; clear HO377; clear HB; have HO368 := n0_; have HO373 := n1_; have HO375 := n2_; have HO377 := n3_; have HO382 := n4_; have HO384 := n5_; have HO386 := n6_; have HB := n7_; clear n0_ n1_ n2_ n3_ n4_ n5_ n6_ n7_; (try clear hb); (try clear hb2); (try clear hk); (try clear hi); (try clear ho0); (try clear ho1); (try clear ho2); obtain ⟨Ao26, co26, eo26⟩ := Kd.R_slice HO373.out; subst eo26; obtain ⟨Ao27, co27, eo27⟩ := Kd.R_slice HO382.out; subst eo27) | ((with_reducible refine gate_callee (f := 48) rfl ?_); refine goesL_ (some 45) rfl rfl Try.func48 (by kernel_rfl) rfl #[.slice Ao26 t369.length co26, .slice Ao27 t378.length co27] rfl kz13_2 ?_; (with_reducible refine (tumbrelref09_Ints.calls kj4 _ _ t369 _ _ t378 true _ ?side1 ?side2 ?side3 ?side4 A17.out).mono ?_); (case side1 => repeat (first | exact (Kd.R_reads' HO373.out).2.2 | (with_reducible refine Kd.C_alloc ?_ _) | (with_reducible refine Kd.C_drewN ?_ _) | (with_reducible refine Kd.C_drew ?_))); (case side2 => exact (Kd.R_reads' HO373.out).2.1); (case side3 => repeat (first | exact (Kd.R_reads' HO382.out).2.2 | (with_reducible refine Kd.C_alloc ?_ _) | (with_reducible refine Kd.C_drewN ?_ _) | (with_reducible refine Kd.C_drew ?_))); (case side4 => exact (Kd.R_reads' HO382.out).2.1); rintro e w' ⟨rfl, ⟨nd, rfl⟩⟩; refine ⟨_, rfl, ?_⟩; obtain ⟨Ao28, co28, eo28⟩ := Kd.R_slice HO375.out; subst eo28; obtain ⟨Ao29, co29, eo29⟩ := Kd.R_slice HO384.out; subst eo29) | (go_at_call 48; (with_reducible refine (tumbrelref09_Ints.calls kj4 _ _ t370 _ _ t379 true _ ?side1 ?side2 ?side3 ?side4 A19.out).mono ?_); (case side1 => repeat (first | exact (Kd.R_reads' HO375.out).2.2 | (with_reducible refine Kd.C_alloc ?_ _) | (with_reducible refine Kd.C_drewN ?_ _) | (with_reducible refine Kd.C_drew ?_))); (case side2 => exact (Kd.R_reads' HO375.out).2.1); (case side3 => repeat (first | exact (Kd.R_reads' HO384.out).2.2 | (with_reducible refine Kd.C_alloc ?_ _) | (with_reducible refine Kd.C_drewN ?_ _) | (with_reducible refine Kd.C_drew ?_))); (case side4 => exact (Kd.R_reads' HO384.out).2.1); rintro e w' ⟨rfl, ⟨nd, rfl⟩⟩; obtain ⟨Ao30, co30, eo30⟩ := Kd.R_slice HO377.out; subst eo30; obtain ⟨Ao31, co31, eo31⟩ := Kd.R_slice HO386.out; subst eo31) | (go_at_call 48; (with_reducible refine (tumbrelref09_Ints.calls kj4 _ _ t371 _ _ t380 t389 _ ?side1 ?side2 ?side3 ?side4 A21.out).mono ?_); (case side1 => repeat (first | exact (Kd.R_reads' HO377.out).2.2 | (with_reducible refine Kd.C_alloc ?_ _) | (with_reducible refine Kd.C_drewN ?_ _) | (with_reducible refine Kd.C_drew ?_))); (case side2 => exact (Kd.R_reads' HO377.out).2.1); (case side3 => repeat (first | exact (Kd.R_reads' HO386.out).2.2 | (with_reducible refine Kd.C_alloc ?_ _) | (with_reducible refine Kd.C_drewN ?_ _) | (with_reducible refine Kd.C_drew ?_))); (case side4 => exact (Kd.R_reads' HO386.out).2.1); rintro e w' ⟨rfl, ⟨nd, rfl⟩⟩))
      go_ret
      exact ⟨by first | rfl | (simp [errW_none, errW_some] <;> rfl) | (simp [*, errW_none, errW_some] <;> rfl), by repeat (first | (with_reducible first | exact HB.out | apply below_alloc | apply pw_below_drewN | apply below_drew1) | exact HB.out)⟩
     ·replace c20 := Bool.eq_false_iff.mpr c20
      subst c20
      have H1 : (some false) = some r := by rw [if_neg (show ¬ (false = true) by decide)] at H; exact H
      clear H
      have H := H1
      clear H1
      obtain rfl := Option.some.inj H
      go_wp2_with (first | ((with_reducible refine gate_callee (f := 43) rfl ?_); refine goesL_ (some 26) rfl rfl Try.func43 (by kernel_rfl) rfl #[.slice A0 l0.length c0] rfl kz13_2 ?_; (with_reducible refine (tumbrellaw09_Theirs.calls kj4 _ _ l0 t366 _ ?side1 ?side2 A14.out).mono ?_); (case side1 => repeat (first | exact (Kd.C_below HR0.out HB.out) | (with_reducible refine Kd.C_alloc ?_ _) | (with_reducible refine Kd.C_drewN ?_ _) | (with_reducible refine Kd.C_drew ?_))); (case side2 => exact HC0.out); rintro e w32 ⟨v367, rfl, ho0, hb⟩; refine ⟨_, rfl, ?_⟩; have n0_ := Aside0.mk (Kd.R_lower ho0 (below_size kz13_1)); have n1_ := Aside0.mk (below_step kz13_1 hb); clear HB; have HO368 := n0_; have HB := n1_; clear n0_ n1_; (try clear hb); (try clear hb2); (try clear hk); (try clear hi); (try clear ho0); obtain ⟨Ao33, co33, eo33⟩ := Kd.R_slice HO368.out; subst eo33) | ((with_reducible refine gate_callee (f := 57) rfl ?_); refine goesL_ (some 30) rfl rfl Try.func57 (by kernel_rfl) rfl #[.slice Ao33 t366.length co33, .slice A1 l1.length c1, .int .i64 a2, .int .i64 a3] rfl kz13_2 ?_; (with_reducible refine (config_Move.calls kj4 _ _ t366 _ _ l1 a2 a3 t369 t370 t371 _ ?side1 ?side2 ?side3 ?side4 A15.out).mono ?_); (case side1 => repeat (first | exact (Kd.R_reads' HO368.out).2.2 | (with_reducible refine Kd.C_alloc ?_ _) | (with_reducible refine Kd.C_drewN ?_ _) | (with_reducible refine Kd.C_drew ?_))); (case side2 => exact (Kd.R_reads' HO368.out).2.1); (case side3 => repeat (first | exact (Kd.C_below HR1.out HB.out) | (with_reducible refine Kd.C_alloc ?_ _) | (with_reducible refine Kd.C_drewN ?_ _) | (with_reducible refine Kd.C_drew ?_))); (case side4 => exact HC1.out); rintro e w34 ⟨v372, v374, v376, rfl, ho0, ho1, ho2, hb⟩; refine ⟨_, rfl, ?_⟩; have n0_ := Aside0.mk (Kd.R_below kz13_6 hb); have n1_ := Aside0.mk (Kd.R_lower ho0 (below_size kz13_1)); have n2_ := Aside0.mk (Kd.R_lower ho1 (below_size kz13_1)); have n3_ := Aside0.mk (Kd.R_lower ho2 (below_size kz13_1)); have n4_ := Aside0.mk (below_step kz13_1 hb); clear HO368; clear HB; have HO368 := n0_; have HO373 := n1_; have HO375 := n2_; have HO377 := n3_; have HB := n4_; clear n0_ n1_ n2_ n3_ n4_; (try clear hb); (try clear hb2); (try clear hk); (try clear hi); (try clear ho0); (try clear ho1); (try clear ho2)) | ((with_reducible refine gate_callee (f := 58) rfl ?_); refine goesL_ (some 39) rfl rfl Try.func58 (by kernel_rfl) rfl #[.slice A0 l0.length c0, .slice A1 l1.length c1, .int .i64 a2, .int .i64 a3] rfl kz13_2 ?_; (with_reducible refine (tumbrelref09_Move.calls kj4 _ _ l0 _ _ l1 a2 a3 t378 t379 t380 _ ?side1 ?side2 ?side3 ?side4 A16.out).mono ?_); (case side1 => repeat (first | exact (Kd.C_below HR0.out HB.out) | (with_reducible refine Kd.C_alloc ?_ _) | (with_reducible refine Kd.C_drewN ?_ _) | (with_reducible refine Kd.C_drew ?_))); (case side2 => exact HC0.out); (case side3 => repeat (first | exact (Kd.C_below HR1.out HB.out) | (with_reducible refine Kd.C_alloc ?_ _) | (with_reducible refine Kd.C_drewN ?_ _) | (with_reducible refine Kd.C_drew ?_))); (case side4 => exact HC1.out); rintro e w35 ⟨v381, v383, v385, rfl, ho0, ho1, ho2, hb⟩; refine ⟨_, rfl, ?_⟩; have n0_ := Aside0.mk (Kd.R_below kz13_6 hb); have n1_ := Aside0.mk (Kd.R_mono (Kd.R_told (Kd.R_told (Kd.R_told (Kd.R_old kz13_5 hb) (Kd.R_base ho0)) (Kd.R_base ho1)) (Kd.R_base ho2)) (fun _ h_ => h_.1)); have n2_ := Aside0.mk (Kd.R_mono (Kd.R_told (Kd.R_told (Kd.R_told (Kd.R_old kz13_4 hb) (Kd.R_base ho0)) (Kd.R_base ho1)) (Kd.R_base ho2)) (fun _ h_ => h_.1)); have n3_ := Aside0.mk (Kd.R_mono (Kd.R_told (Kd.R_told (Kd.R_told (Kd.R_old kz13_3 hb) (Kd.R_base ho0)) (Kd.R_base ho1)) (Kd.R_base ho2)) (fun _ h_ => h_.1)); have n4_ := Aside0.mk (Kd.R_lower (Kd.R_new' (Kd.R_new' (Kd.R_new' ho0 (Kd.R_lt kz13_5)) (Kd.R_lt kz13_4)) (Kd.R_lt kz13_3)) (below_size kz13_1)); have n5_ := Aside0.mk (Kd.R_lower (Kd.R_new' (Kd.R_new' (Kd.R_new' ho1 (Kd.R_lt kz13_5)) (Kd.R_lt kz13_4)) (Kd.R_lt kz13_3)) (below_size kz13_1)); have n6_ := Aside0.mk (Kd.R_lower (Kd.R_new' (Kd.R_new' (Kd.R_new' ho2 (Kd.R_lt kz13_5)) (Kd.R_lt kz13_4)) (Kd.R_lt kz13_3)) (below_size kz13_1)); have n7_ := Aside0.mk (below_step kz13_1 hb); clear HO368; clear HO373; clear HO375; clear HO377; clear HB; have HO368 := n0_; have HO373 := n1_; have HO375 := n2_; have HO377 := n3_; have HO382 := n4_; have HO384 := n5_; have HO386 := n6_; have HB := n7_; clear n0_ n1_ n2_ n3_ n4_ n5_ n6_ n7_; (try clear hb); (try clear hb2); (try clear hk); (try clear hi); (try clear ho0); (try clear ho1); (try clear ho2); obtain ⟨Ao36, co36, eo36⟩ := Kd.R_slice HO373.out; subst eo36; obtain ⟨Ao37, co37, eo37⟩ := Kd.R_slice HO382.out; subst eo37) | ((with_reducible refine gate_callee (f := 48) rfl ?_); refine goesL_ (some 45) rfl rfl Try.func48 (by kernel_rfl) rfl #[.slice Ao36 t369.length co36, .slice Ao37 t378.length co37] rfl kz13_2 ?_; (with_reducible refine (tumbrelref09_Ints.calls kj4 _ _ t369 _ _ t378 true _ ?side1 ?side2 ?side3 ?side4 A17.out).mono ?_); (case side1 => repeat (first | exact (Kd.R_reads' HO373.out).2.2 | (with_reducible refine Kd.C_alloc ?_ _) | (with_reducible refine Kd.C_drewN ?_ _) | (with_reducible refine Kd.C_drew ?_))); (case side2 => exact (Kd.R_reads' HO373.out).2.1); (case side3 => repeat (first | exact (Kd.R_reads' HO382.out).2.2 | (with_reducible refine Kd.C_alloc ?_ _) | (with_reducible refine Kd.C_drewN ?_ _) | (with_reducible refine Kd.C_drew ?_))); (case side4 => exact (Kd.R_reads' HO382.out).2.1); rintro e w' ⟨rfl, ⟨nd, rfl⟩⟩; refine ⟨_, rfl, ?_⟩; obtain ⟨Ao38, co38, eo38⟩ := Kd.R_slice HO375.out; subst eo38; obtain ⟨Ao39, co39, eo39⟩ := Kd.R_slice HO384.out; subst eo39) | (go_at_call 48; (with_reducible refine (tumbrelref09_Ints.calls kj4 _ _ t370 _ _ t379 false _ ?side1 ?side2 ?side3 ?side4 A19.out).mono ?_); (case side1 => repeat (first | exact (Kd.R_reads' HO375.out).2.2 | (with_reducible refine Kd.C_alloc ?_ _) | (with_reducible refine Kd.C_drewN ?_ _) | (with_reducible refine Kd.C_drew ?_))); (case side2 => exact (Kd.R_reads' HO375.out).2.1); (case side3 => repeat (first | exact (Kd.R_reads' HO384.out).2.2 | (with_reducible refine Kd.C_alloc ?_ _) | (with_reducible refine Kd.C_drewN ?_ _) | (with_reducible refine Kd.C_drew ?_))); (case side4 => exact (Kd.R_reads' HO384.out).2.1); rintro e w' ⟨rfl, ⟨nd, rfl⟩⟩))
      go_ret
      exact ⟨by first | rfl | (simp [errW_none, errW_some] <;> rfl) | (simp [*, errW_none, errW_some] <;> rfl), by repeat (first | (with_reducible first | exact HB.out | apply below_alloc | apply pw_below_drewN | apply below_drew1) | exact HB.out)⟩
    ·replace c18 := Bool.eq_false_iff.mpr c18
     subst c18
     have H1 : (some false) = some r := by rw [if_neg (show ¬ (false = true) by decide)] at H; exact H
     clear H
     have H := H1
     clear H1
     obtain rfl := Option.some.inj H
     go_wp2_with (first | ((with_reducible refine gate_callee (f := 43) rfl ?_); refine goesL_ (some 26) rfl rfl Try.func43 (by kernel_rfl) rfl #[.slice A0 l0.length c0] rfl kz13_2 ?_; (with_reducible refine (tumbrellaw09_Theirs.calls kj4 _ _ l0 t366 _ ?side1 ?side2 A14.out).mono ?_); (case side1 => repeat (first | exact (Kd.C_below HR0.out HB.out) | (with_reducible refine Kd.C_alloc ?_ _) | (with_reducible refine Kd.C_drewN ?_ _) | (with_reducible refine Kd.C_drew ?_))); (case side2 => exact HC0.out); rintro e w40 ⟨v367, rfl, ho0, hb⟩; refine ⟨_, rfl, ?_⟩; have n0_ := Aside0.mk (Kd.R_lower ho0 (below_size kz13_1)); have n1_ := Aside0.mk (below_step kz13_1 hb); clear HB; have HO368 := n0_; have HB := n1_; clear n0_ n1_; (try clear hb); (try clear hb2); (try clear hk); (try clear hi); (try clear ho0); obtain ⟨Ao41, co41, eo41⟩ := Kd.R_slice HO368.out; subst eo41) | ((with_reducible refine gate_callee (f := 57) rfl ?_); refine goesL_ (some 30) rfl rfl Try.func57 (by kernel_rfl) rfl #[.slice Ao41 t366.length co41, .slice A1 l1.length c1, .int .i64 a2, .int .i64 a3] rfl kz13_2 ?_; (with_reducible refine (config_Move.calls kj4 _ _ t366 _ _ l1 a2 a3 t369 t370 t371 _ ?side1 ?side2 ?side3 ?side4 A15.out).mono ?_); (case side1 => repeat (first | exact (Kd.R_reads' HO368.out).2.2 | (with_reducible refine Kd.C_alloc ?_ _) | (with_reducible refine Kd.C_drewN ?_ _) | (with_reducible refine Kd.C_drew ?_))); (case side2 => exact (Kd.R_reads' HO368.out).2.1); (case side3 => repeat (first | exact (Kd.C_below HR1.out HB.out) | (with_reducible refine Kd.C_alloc ?_ _) | (with_reducible refine Kd.C_drewN ?_ _) | (with_reducible refine Kd.C_drew ?_))); (case side4 => exact HC1.out); rintro e w42 ⟨v372, v374, v376, rfl, ho0, ho1, ho2, hb⟩; refine ⟨_, rfl, ?_⟩; have n0_ := Aside0.mk (Kd.R_below kz13_6 hb); have n1_ := Aside0.mk (Kd.R_lower ho0 (below_size kz13_1)); have n2_ := Aside0.mk (Kd.R_lower ho1 (below_size kz13_1)); have n3_ := Aside0.mk (Kd.R_lower ho2 (below_size kz13_1)); have n4_ := Aside0.mk (below_step kz13_1 hb); clear HO368; clear HB; have HO368 := n0_; have HO373 := n1_; have HO375 := n2_; have HO377 := n3_; have HB := n4_; clear n0_ n1_ n2_ n3_ n4_; (try clear hb); (try clear hb2); (try clear hk); (try clear hi); (try clear ho0); (try clear ho1); (try clear ho2)) | ((with_reducible refine gate_callee (f := 58) rfl ?_); refine goesL_ (some 39) rfl rfl Try.func58 (by kernel_rfl) rfl #[.slice A0 l0.length c0, .slice A1 l1.length c1, .int .i64 a2, .int .i64 a3] rfl kz13_2 ?_; (with_reducible refine (tumbrelref09_Move.calls kj4 _ _ l0 _ _ l1 a2 a3 t378 t379 t380 _ ?side1 ?side2 ?side3 ?side4 A16.out).mono ?_); (case side1 => repeat (first | exact (Kd.C_below HR0.out HB.out) | (with_reducible refine Kd.C_alloc ?_ _) | (with_reducible refine Kd.C_drewN ?_ _) | (with_reducible refine Kd.C_drew ?_))); (case side2 => exact HC0.out); (case side3 => repeat (first | exact (Kd.C_below HR1.out HB.out) | (with_reducible refine Kd.C_alloc ?_ _) | (with_reducible refine Kd.C_drewN ?_ _) | (with_reducible refine Kd.C_drew ?_))); (case side4 => exact HC1.out); rintro e w43 ⟨v381, v383, v385, rfl, ho0, ho1, ho2, hb⟩; refine ⟨_, rfl, ?_⟩; have n0_ := Aside0.mk (Kd.R_below kz13_6 hb); have n1_ := Aside0.mk (Kd.R_mono (Kd.R_told (Kd.R_told (Kd.R_told (Kd.R_old kz13_5 hb) (Kd.R_base ho0)) (Kd.R_base ho1)) (Kd.R_base ho2)) (fun _ h_ => h_.1)); have n2_ := Aside0.mk (Kd.R_mono (Kd.R_told (Kd.R_told (Kd.R_told (Kd.R_old kz13_4 hb) (Kd.R_base ho0)) (Kd.R_base ho1)) (Kd.R_base ho2)) (fun _ h_ => h_.1)); have n3_ := Aside0.mk (Kd.R_mono (Kd.R_told (Kd.R_told (Kd.R_told (Kd.R_old kz13_3 hb) (Kd.R_base ho0)) (Kd.R_base ho1)) (Kd.R_base ho2)) (fun _ h_ => h_.1)); have n4_ := Aside0.mk (Kd.R_lower (Kd.R_new' (Kd.R_new' (Kd.R_new' ho0 (Kd.R_lt kz13_5)) (Kd.R_lt kz13_4)) (Kd.R_lt kz13_3)) (below_size kz13_1)); have n5_ := Aside0.mk (Kd.R_lower (Kd.R_new' (Kd.R_new' (Kd.R_new' ho1 (Kd.R_lt kz13_5)) (Kd.R_lt kz13_4)) (Kd.R_lt kz13_3)) (below_size kz13_1)); have n6_ := Aside0.mk (Kd.R_lower (Kd.R_new' (Kd.R_new' (Kd.R_new' ho2 (Kd.R_lt kz13_5)) (Kd.R_lt kz13_4)) (Kd.R_lt kz13_3)) (below_size kz13_1)); have n7_ := Aside0.mk (below_step kz13_1 hb); clear HO368; clear HO373; clear HO375; clear HO377; clear HB; have HO368 := n0_; have HO373 := n1_; have HO375 := n2_; have HO377 := n3_; have HO382 := n4_; have HO384 := n5_; have HO386 := n6_; have HB := n7_; clear n0_ n1_ n2_ n3_ n4_ n5_ n6_ n7_; (try clear hb); (try clear hb2); (try clear hk); (try clear hi); (try clear ho0); (try clear ho1); (try clear ho2); obtain ⟨Ao44, co44, eo44⟩ := Kd.R_slice HO373.out; subst eo44; obtain ⟨Ao45, co45, eo45⟩ := Kd.R_slice HO382.out; subst eo45) | ((with_reducible refine gate_callee (f := 48) rfl ?_); refine goesL_ (some 45) rfl rfl Try.func48 (by kernel_rfl) rfl #[.slice Ao44 t369.length co44, .slice Ao45 t378.length co45] rfl kz13_2 ?_; (with_reducible refine (tumbrelref09_Ints.calls kj4 _ _ t369 _ _ t378 false _ ?side1 ?side2 ?side3 ?side4 A17.out).mono ?_); (case side1 => repeat (first | exact (Kd.R_reads' HO373.out).2.2 | (with_reducible refine Kd.C_alloc ?_ _) | (with_reducible refine Kd.C_drewN ?_ _) | (with_reducible refine Kd.C_drew ?_))); (case side2 => exact (Kd.R_reads' HO373.out).2.1); (case side3 => repeat (first | exact (Kd.R_reads' HO382.out).2.2 | (with_reducible refine Kd.C_alloc ?_ _) | (with_reducible refine Kd.C_drewN ?_ _) | (with_reducible refine Kd.C_drew ?_))); (case side4 => exact (Kd.R_reads' HO382.out).2.1); rintro e w' ⟨rfl, ⟨nd, rfl⟩⟩; refine ⟨_, rfl, ?_⟩))
     go_ret
     exact ⟨by first | rfl | (simp [errW_none, errW_some] <;> rfl) | (simp [*, errW_none, errW_some] <;> rfl), by repeat (first | (with_reducible first | exact HB.out | apply below_alloc | apply pw_below_drewN | apply below_drew1) | exact HB.out)⟩

end Go.Proofs.Ytjghlomkimoeoaa.PConfigMoves
