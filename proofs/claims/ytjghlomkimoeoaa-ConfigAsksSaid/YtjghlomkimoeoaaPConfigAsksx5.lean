-- Written by fprint.py (wip), by way of the printer's functions; where they are turned, by texts of mine.
import Derived.Test.YtjghlomkimoeoaaPConfigAsksx0
import Derived.Test.YtjghlomkimoeoaaPConfigAsksx4
namespace Go.Proofs.Ytjghlomkimoeoaa.PConfigAsks
open Go.RowKit Go.Proofs.YtjghlomkimoeoaaW.PrintWords Go.Proofs.YtjghlomkimoeoaaW.PrintLast Go.Proofs.YtjghlomkimoeoaaW.PrintMore
attribute [local go_sem] max2_int min2_int max_two min_two max_three min_three max_four min_four   -- for this text's walks alone
set_option linter.unusedVariables false
set_option linter.unusedSimpArgs false
theorem kz5_1 {p_ : Prop} (h_ : p_ := by repeat (first | (with_reducible first | exact HB.out | apply below_alloc | apply pw_below_drewN | apply below_drew1) | exact HB.out)) : p_ := h_
theorem kz5_2 {p_ : Prop} (h_ : p_ := by first | (with_reducible assumption) | assumption) : p_ := h_
theorem kz5_3 {p_ : Prop} (h_ : p_ := by first | rfl | (simp; done) | (simp [*]; done)) : p_ := h_
theorem kz5_4 {p_ : Prop} (h_ : p_ := by (try simp only [List.map_toArray, List.map_cons, List.map_nil]); first | done | rfl | (simp only [List.length_drop, List.length_take]; rfl)) : p_ := h_

/-! ### tumbrellaw10_awake: function 41 -/
def tumbrellaw10_awake.f (k : Nat)  : Option (Bool) := (config_Legal.f k (([(⟨(⟨#[97]⟩ : ByteArray), (-1), 0, 1, false, false, true⟩ : S86)] : List (S86))) (([0] : List Int))).bind fun t156 => (some t156)
theorem tumbrellaw10_awake.mono : ∀ k, LeO (tumbrellaw10_awake.f k ) (tumbrellaw10_awake.f (k + 1) ) := by
 intro  k
 unfold tumbrellaw10_awake.f
 repeat' first
   | (with_reducible exact config_Legal.mono _ _ _)
   | (with_reducible exact LeO.refl _)
   | (with_reducible exact LeO.none _)
   | (with_reducible refine LeO.ite ?_ ?_)
   | (with_reducible refine LeO.bind ?_ (fun _ => ?_))
   | exact config_Legal.mono _ _ _
   | exact LeO.none _
   | refine LeO.ite ?_ ?_
   | refine LeO.bind ?_ (fun _ => ?_)
set_option maxHeartbeats 8000000 in
set_option maxRecDepth 100000 in
theorem tumbrellaw10_awake.calls (k : Nat)  (r : Bool) (w : World) (h : tumbrellaw10_awake.f k  = some r) :
  Calls Try.prog 41 #[] w fun e w' => e = .returned (.bool r) ∧ Below w.heap.size w w' := by
 have hu86 := Try.underlying86
 have HB := Aside0.mk (Below.refl w.heap.size w)
 have H : ((config_Legal.f k (([(⟨(⟨#[97]⟩ : ByteArray), (-1), 0, 1, false, false, true⟩ : S86)] : List (S86))) (([0] : List Int))).bind fun t156 => (some t156)) = some r := h
 clear h
 obtain ⟨y150, hy150⟩ : ∃ y_ : List (S86), y_ = (([(⟨(⟨#[97]⟩ : ByteArray), (-1), 0, 1, false, false, true⟩ : S86)] : List (S86))) := ⟨_, rfl⟩
 replace H : ((config_Legal.f k y150 (([0] : List Int))).bind fun t156 => (some t156)) = some r := by first | (rw [hy150]; with_reducible exact H) | (have H2_ := (Option.bind_some _ _).symm.trans H; rw [hy150]; with_reducible exact H2_) | (have H2_ := (Option.bind_some _ _).symm.trans H; with_reducible exact H2_) | with_reducible exact H | (rw [hy150]; exact H) | exact H
 have Ny150 := Aside0.mk hy150
 clear hy150
 obtain ⟨y153, hy153⟩ : ∃ y_ : List Int, y_ = (([0] : List Int)) := ⟨_, rfl⟩
 replace H : ((config_Legal.f k y150 y153).bind fun t156 => (some t156)) = some r := by first | (rw [hy153]; with_reducible exact H) | (have H2_ := (Option.bind_some _ _).symm.trans H; rw [hy153]; with_reducible exact H2_) | (have H2_ := (Option.bind_some _ _).symm.trans H; with_reducible exact H2_) | with_reducible exact H | (rw [hy153]; exact H) | exact H
 have Ny153 := Aside0.mk hy153
 clear hy153
 replace H := Option.bind_eq_some_iff.mp H
 obtain ⟨t156, A10, H⟩ := H
 replace H : (some t156) = some r := H
 have A1 := Aside0.mk A10
 clear A10
 obtain rfl := Option.some.inj H
 go_enter Try.func41, Try.ntmps41
 go_wp2_with (first | ((with_reducible refine gate_dst (N := 2) rfl ?_); refine Kd.R_lit k86 _ 86 ?hg (N := 2) ?hd (xs := ([(⟨(⟨#[97]⟩ : ByteArray), (-1), 0, 1, false, false, true⟩ : S86)] : List (S86))) (inner := [.string (⟨#[97]⟩ : ByteArray), .int .i64 (-1), .int .i64 0, .int .i64 1, .bool false, .bool false, .bool true]) (ok := fun _ => True) (okp := fun _ => True) ?hr ?hp (fun _ hk => hk) trivial (Below.refl _ _) (Nat.le_refl _) (by simp) ?_; (case hd => rfl); (case hg => rfl); (case hr => first | (go_simp; done) | (go_simp; rfl)); (case hp => exact (Reps.c7 (show Kd.M k86 _ _ _ (⟨(⟨#[97]⟩ : ByteArray), (-1), 0, 1, false, false, true⟩ : S86) [.string (⟨#[97]⟩ : ByteArray), .int .i64 (-1), .int .i64 0, .int .i64 1, .bool false, .bool false, .bool true] from (k86_mkM _ _ _ (⟨(⟨#[97]⟩ : ByteArray), (-1), 0, 1, false, false, true⟩ : S86) )) (Reps.none _ _))); intro v151 w2 ho3 hb hg_ hnew_; clear hg_ hnew_; (first | rw [← Ny150.out] at ho3 | (simp only [Int.reduceToNat] at ho3; rw [← Ny150.out] at ho3)); have n0_ := Aside0.mk (Kd.R_lower ho3 (below_size kz5_1)); have n1_ := Aside0.mk (below_step kz5_1 hb); clear HB; have HO152 := n0_; have HB := n1_; clear n0_ n1_; clear hb ho3) | ((with_reducible refine gate_dst (N := 3) rfl ?_); refine Kd.R_lit (Kd.int .i64) _ 3 ?hg (N := 3) ?hd (xs := ([0] : List Int)) (inner := [.int .i64 0]) (ok := fun _ => True) (okp := fun _ => True) ?hr ?hp (fun _ hk => hk) trivial (Below.refl _ _) (Nat.le_refl _) (by simp) ?_; (case hd => rfl); (case hg => rfl); (case hr => first | (go_simp; done) | (go_simp; rfl)); (case hp => exact (Reps.one (show Kd.M (Kd.int .i64) _ _ _ 0 [.int .i64 0] from rfl) (Reps.none _ _))); intro v154 w4 ho5 hb hg_ hnew_; clear hg_ hnew_; (first | rw [← Ny153.out] at ho5 | (simp only [Int.reduceToNat] at ho5; rw [← Ny153.out] at ho5)); have n0_ := Aside0.mk (Kd.R_below (by (with_reducible repeat (first | apply Kd.R_alloc | apply Kd.R_drewN | apply Kd.R_drew)); exact HO152.out) hb); have n1_ := Aside0.mk (Kd.R_lower ho5 (below_size kz5_1)); have n2_ := Aside0.mk (below_step kz5_1 hb); clear HO152; clear HB; have HO152 := n0_; have HO155 := n1_; have HB := n2_; clear n0_ n1_ n2_; clear hb ho5; obtain ⟨Ao6, co6, eo6⟩ := Kd.R_slice HO152.out; subst eo6; obtain ⟨Ao7, co7, eo7⟩ := Kd.R_slice HO155.out; subst eo7) | ((with_reducible refine gate_callee (f := 44) rfl ?_); refine goesL_ (some 4) rfl rfl Try.func44 (by kernel_rfl) rfl #[.slice Ao6 y150.length co6, .slice Ao7 y153.length co7] rfl kz5_4 ?_; (with_reducible refine (config_Legal.calls k _ _ y150 _ _ y153 t156 _ ?side1 ?side2 ?side3 ?side4 A1.out).mono ?_); (case side1 => repeat (first | exact (Kd.R_reads' HO152.out).2.2 | (with_reducible refine Kd.C_alloc ?_ _) | (with_reducible refine Kd.C_drewN ?_ _) | (with_reducible refine Kd.C_drew ?_))); (case side2 => exact (Kd.R_reads' HO152.out).2.1); (case side3 => repeat (first | exact (Kd.R_reads' HO155.out).2.2 | (with_reducible refine Kd.C_alloc ?_ _) | (with_reducible refine Kd.C_drewN ?_ _) | (with_reducible refine Kd.C_drew ?_))); (case side4 => exact (Kd.R_reads' HO155.out).2.1); rintro e w8 ⟨rfl, hb⟩; refine ⟨_, rfl, ?_⟩; have n0_ := Aside0.mk (Kd.R_below (by (with_reducible repeat (first | apply Kd.R_alloc | apply Kd.R_drewN | apply Kd.R_drew)); exact HO152.out) hb); have n1_ := Aside0.mk (Kd.R_below (by (with_reducible repeat (first | apply Kd.R_alloc | apply Kd.R_drewN | apply Kd.R_drew)); exact HO155.out) hb); have n2_ := Aside0.mk (below_step kz5_1 hb); clear HO152; clear HO155; clear HB; have HO152 := n0_; have HO155 := n1_; have HB := n2_; clear n0_ n1_ n2_; (try clear hb); (try clear hb2); (try clear hk); (try clear hi)))
 go_ret
 exact ⟨by first | rfl | (simp [errW_none, errW_some] <;> rfl) | (simp [*, errW_none, errW_some] <;> rfl), by repeat (first | (with_reducible first | exact HB.out | apply below_alloc | apply pw_below_drewN | apply below_drew1) | exact HB.out)⟩

/-! ### tumbrellaw09_Few: function 83 -/
def tumbrellaw09_Few.l0 : Nat → List (S140) → Int → Int → Option (Bool)
 | 0, _, _, _ => none
 | k + 1, x0, x5, x6 => if x6 < x5 then (if x6 ≥ 60 then (some false) else (if 0 ≤ x6 then (if x6 < (x0.length : Int) then (if (((rd_T140 x0 x6).f0).size : Int) > 1000 then (some false) else (tumbrellaw09_Few.l0 k x0 x5 (wrap64 (x6 + 1)))) else (none)) else (none))) else (some true)
def tumbrellaw09_Few.f (k : Nat) (l0 : List (S140)) : Option (Bool) := tumbrellaw09_Few.l0 k l0 (l0.length : Int) 0
theorem tumbrellaw09_Few.mono_l : ∀ k, (∀ y0 y1 y2, LeO (tumbrellaw09_Few.l0 k y0 y1 y2) (tumbrellaw09_Few.l0 (k + 1) y0 y1 y2))
 | 0 => fun _ _ _ r h => by simp [tumbrellaw09_Few.l0] at h
 | k + 1 => by
  have ih0 := tumbrellaw09_Few.mono_l k
  ·intro y0 y1 y2
   unfold tumbrellaw09_Few.l0
   repeat' first
   | (with_reducible exact ih0 _ _ _)
   | (with_reducible exact LeO.refl _)
   | (with_reducible exact LeO.none _)
   | (with_reducible refine LeO.ite ?_ ?_)
   | (with_reducible refine LeO.bind ?_ (fun _ => ?_))
   | exact ih0 _ _ _
   | exact LeO.none _
   | refine LeO.ite ?_ ?_
   | refine LeO.bind ?_ (fun _ => ?_)
theorem tumbrellaw09_Few.mono : ∀ a0 k, LeO (tumbrellaw09_Few.f k a0) (tumbrellaw09_Few.f (k + 1) a0) := by
 intro a0 k
 have ih0 := tumbrellaw09_Few.mono_l k
 unfold tumbrellaw09_Few.f
 repeat' first
   | (with_reducible exact ih0 _ _ _)
   | (with_reducible exact LeO.refl _)
   | (with_reducible exact LeO.none _)
   | (with_reducible refine LeO.ite ?_ ?_)
   | (with_reducible refine LeO.bind ?_ (fun _ => ?_))
   | exact ih0 _ _ _
   | exact LeO.none _
   | refine LeO.ite ?_ ?_
   | refine LeO.bind ?_ (fun _ => ?_)
set_option maxHeartbeats 8000000 in
set_option maxRecDepth 100000 in
theorem tumbrellaw09_Few.calls (k : Nat) (A0 : Option Addr) (c0 : Nat) (l0 : List (S140)) (r : Bool) (w : World) (hr0 : Kd.C k140 w A0 l0.length l0) (hc0 : l0.length ≤ c0) (h : tumbrellaw09_Few.f k l0 = some r) :
  Calls Try.prog 83 #[.slice A0 l0.length c0] w fun e w' => e = .returned (.bool r) ∧ Drawn0 w w' := by
 have HR0 := Aside0.mk hr0
 have HC0 := Aside0.mk hc0
 clear hr0 hc0
 have H : (tumbrellaw09_Few.l0 k l0 (l0.length : Int) 0) = some r := h
 clear h
 have H' := Aside0.mk H
 clear H
 go_enter Try.func83, Try.ntmps83
 go_wp2
 go_loopg [6] k (fun kq v6 w' => ∃ (x6_1 : Int), v6 = .int .i64 x6_1 ∧ Aside0 (tumbrellaw09_Few.l0 kq l0 (l0.length : Int) x6_1 = some r) ∧ Aside0 (kq ≤ k) ∧ Drawn0 w w')
 case atStart => exact ⟨(0), kz5_3, H', ⟨Nat.le_refl _⟩, by repeat (first | exact Drawn0.refl _ | apply Drawn0.step)⟩
 case round =>
  clear H'
  obtain ⟨x6_1, rfl, HA, HK1, ⟨m1, rfl⟩⟩ := hrel
  cases gk with
  | zero => exact absurd HA.out (by simp [tumbrellaw09_Few.l0])
  | succ k1 =>
   have H := HA.out
   clear HA
   simp only [tumbrellaw09_Few.l0] at H
   by_cases c2 : x6_1 < (l0.length : Int)
   ·rw [if_pos c2] at H
    have c2b0 : decide (x6_1 < (l0.length : Int)) = true := decide_eq_true c2
    clear c2
    by_cases c3 : x6_1 ≥ 60
    ·rw [if_pos c3] at H
     have c3b0 : decide (60 ≤ x6_1) = true := decide_eq_true c3
     clear c3
     obtain rfl := Option.some.inj H
     go_wp2
     go_ret
     exact ⟨by first | rfl | (simp; done) | (simp [*]; done), by repeat (first | exact Drawn0.refl _ | apply Drawn0.step)⟩
    ·rw [if_neg c3] at H
     have c3b0 : decide (60 ≤ x6_1) = false := decide_eq_false c3
     clear c3
     by_cases c4 : 0 ≤ x6_1
     ·rw [if_pos c4] at H
      have c4b0 : decide (0 ≤ x6_1) = true := decide_eq_true c4
      clear c4
      by_cases c5 : x6_1 < (l0.length : Int)
      ·rw [if_pos c5] at H
       have c5b0 : decide (x6_1 < (l0.length : Int)) = true := decide_eq_true c5
       clear c5
       by_cases c6 : (((rd_T140 l0 x6_1).f0).size : Int) > 1000
       ·rw [if_pos c6] at H
        have c6b0 : decide (1000 < (((rd_T140 l0 x6_1).f0).size : Int)) = true := decide_eq_true c6
        have c6b1 : decide (1000 < ((rd_T140 l0 x6_1).f0).size) = true := decide_eq_true (by omega)
        clear c6
        obtain rfl := Option.some.inj H
        have p157 : 0 ≤ (x6_1 : Int) := of_decide_eq_true kz5_2
        have q157 : x6_1 < (l0.length : Int) := of_decide_eq_true kz5_2
        obtain ⟨ad157, e157, hx157_0, hx157_1, hx157_2, hx157_3, hx157_4, hx157_5, hx157_6⟩ := at_T140 HR0.out x6_1 p157 q157
        cases e157
        replace p157 := eq_true p157
        replace q157 := eq_true q157
        go_wp2
        go_ret
        exact ⟨by first | rfl | (simp; done) | (simp [*]; done), by repeat (first | exact Drawn0.refl _ | apply Drawn0.step)⟩
       ·rw [if_neg c6] at H
        have c6b0 : decide (1000 < (((rd_T140 l0 x6_1).f0).size : Int)) = false := decide_eq_false c6
        have c6b1 : decide (1000 < ((rd_T140 l0 x6_1).f0).size) = false := decide_eq_false (by omega)
        clear c6
        have H' := Aside0.mk H
        clear H
        have p157 : 0 ≤ (x6_1 : Int) := of_decide_eq_true kz5_2
        have q157 : x6_1 < (l0.length : Int) := of_decide_eq_true kz5_2
        obtain ⟨ad157, e157, hx157_0, hx157_1, hx157_2, hx157_3, hx157_4, hx157_5, hx157_6⟩ := at_T140 HR0.out x6_1 p157 q157
        cases e157
        replace p157 := eq_true p157
        replace q157 := eq_true q157
        go_wp2
        go_roundg k1
        case measure => have := HK1.out; omega
        case rel => exact ⟨(wrap64 (x6_1 + 1)), kz5_3, H', ⟨by have := HK1.out; omega⟩, by repeat (first | exact Drawn0.refl _ | apply Drawn0.step)⟩
      ·rw [if_neg c5] at H
       exact absurd H (by simp)
     ·rw [if_neg c4] at H
      exact absurd H (by simp)
   ·rw [if_neg c2] at H
    have c2b0 : decide (x6_1 < (l0.length : Int)) = false := decide_eq_false c2
    clear c2
    obtain rfl := Option.some.inj H
    go_wp2
    go_ret
    exact ⟨by first | rfl | (simp; done) | (simp [*]; done), by repeat (first | exact Drawn0.refl _ | apply Drawn0.step)⟩

/-! ### tumbrellaw10_few: function 42 -/
def tumbrellaw10_few.f (k : Nat) (l0 : List (S140)) (l1 : List Int) : Option (Bool) := (tumbrellaw09_Few.f k l0).bind fun t158 => (if t158 = true then (some (decide ((l1.length : Int) ≤ 100))) else (some false))
theorem tumbrellaw10_few.mono : ∀ a0 a1 k, LeO (tumbrellaw10_few.f k a0 a1) (tumbrellaw10_few.f (k + 1) a0 a1) := by
 intro a0 a1 k
 unfold tumbrellaw10_few.f
 repeat' first
   | (with_reducible exact tumbrellaw09_Few.mono _ _)
   | (with_reducible exact LeO.refl _)
   | (with_reducible exact LeO.none _)
   | (with_reducible refine LeO.ite ?_ ?_)
   | (with_reducible refine LeO.bind ?_ (fun _ => ?_))
   | exact tumbrellaw09_Few.mono _ _
   | exact LeO.none _
   | refine LeO.ite ?_ ?_
   | refine LeO.bind ?_ (fun _ => ?_)
set_option maxHeartbeats 8000000 in
set_option maxRecDepth 100000 in
theorem tumbrellaw10_few.calls (k : Nat) (A0 : Option Addr) (c0 : Nat) (l0 : List (S140)) (A1 : Option Addr) (c1 : Nat) (l1 : List Int) (r : Bool) (w : World) (hr0 : Kd.C k140 w A0 l0.length l0) (hc0 : l0.length ≤ c0) (hr1 : Kd.C (Kd.int .i64) w A1 l1.length l1) (hc1 : l1.length ≤ c1) (h : tumbrellaw10_few.f k l0 l1 = some r) :
  Calls Try.prog 42 #[.slice A0 l0.length c0, .slice A1 l1.length c1] w fun e w' => e = .returned (.bool r) ∧ Drawn0 w w' := by
 have HR0 := Aside0.mk hr0
 have HC0 := Aside0.mk hc0
 clear hr0 hc0
 have HR1 := Aside0.mk hr1
 have HC1 := Aside0.mk hc1
 clear hr1 hc1
 have H : ((tumbrellaw09_Few.f k l0).bind fun t158 => (if t158 = true then (some (decide ((l1.length : Int) ≤ 100))) else (some false))) = some r := h
 clear h
 replace H := Option.bind_eq_some_iff.mp H
 obtain ⟨t158, A30, H⟩ := H
 replace H : (if t158 = true then (some (decide ((l1.length : Int) ≤ 100))) else (some false)) = some r := H
 have A3 := Aside0.mk A30
 clear A30
 by_cases c4 : t158 = true
 ·subst c4
  have H1 : (some (decide ((l1.length : Int) ≤ 100))) = some r := by rw [if_pos rfl] at H; exact H
  clear H
  have H := H1
  clear H1
  obtain rfl := Option.some.inj H
  go_enter Try.func42, Try.ntmps42
  go_wp2_with (first | ((with_reducible refine gate_callee (f := 83) rfl ?_); refine goesL_ (some 6) rfl rfl Try.func83 (by kernel_rfl) rfl #[.slice A0 l0.length c0] rfl kz5_4 ?_; (with_reducible refine (tumbrellaw09_Few.calls k _ _ l0 true _ ?side1 ?side2 A3.out).mono ?_); (case side1 => repeat (first | exact HR0.out | (with_reducible refine Kd.C_alloc ?_ _) | (with_reducible refine Kd.C_drewN ?_ _) | (with_reducible refine Kd.C_drew ?_))); (case side2 => exact HC0.out); rintro e w' ⟨rfl, ⟨nd, rfl⟩⟩; refine ⟨_, rfl, ?_⟩))
  go_ret
  exact ⟨by first | rfl | (simp; done) | (simp [*]; done), by repeat (first | exact Drawn0.refl _ | apply Drawn0.step)⟩
 ·replace c4 := Bool.eq_false_iff.mpr c4
  subst c4
  have H1 : (some false) = some r := by rw [if_neg (show ¬ (false = true) by decide)] at H; exact H
  clear H
  have H := H1
  clear H1
  obtain rfl := Option.some.inj H
  go_enter Try.func42, Try.ntmps42
  go_wp2_with (first | ((with_reducible refine gate_callee (f := 83) rfl ?_); refine goesL_ (some 6) rfl rfl Try.func83 (by kernel_rfl) rfl #[.slice A0 l0.length c0] rfl kz5_4 ?_; (with_reducible refine (tumbrellaw09_Few.calls k _ _ l0 false _ ?side1 ?side2 A3.out).mono ?_); (case side1 => repeat (first | exact HR0.out | (with_reducible refine Kd.C_alloc ?_ _) | (with_reducible refine Kd.C_drewN ?_ _) | (with_reducible refine Kd.C_drew ?_))); (case side2 => exact HC0.out); rintro e w' ⟨rfl, ⟨nd, rfl⟩⟩; refine ⟨_, rfl, ?_⟩))
  go_ret
  exact ⟨by first | rfl | (simp; done) | (simp [*]; done), by repeat (first | exact Drawn0.refl _ | apply Drawn0.step)⟩

/-! ### tumbrellaw09_Theirs: function 43 -/
def tumbrellaw09_Theirs.l0 : Nat → List (S140) → List (S86) → Int → Int → Option ((List (S86)))
 | 0, _, _, _, _ => none
 | k + 1, x0, x3, x6, x7 => if x7 < x6 then (if 0 ≤ x7 then (if x7 < (x0.length : Int) then (if x3.length < 2932031007402 then (tumbrellaw09_Theirs.l0 k x0 (x3 ++ [(⟨(rd_T140 x0 x7).f0, (rd_T140 x0 x7).f1, (rd_T140 x0 x7).f2, (rd_T140 x0 x7).f3, (rd_T140 x0 x7).f4, (rd_T140 x0 x7).f5, (rd_T140 x0 x7).f6⟩ : S86)]) x6 (wrap64 (x7 + 1))) else (none)) else (none)) else (none)) else (some x3)
def tumbrellaw09_Theirs.f (k : Nat) (l0 : List (S140)) : Option ((List (S86))) := tumbrellaw09_Theirs.l0 k l0 ([] : List (S86)) (l0.length : Int) 0
theorem tumbrellaw09_Theirs.mono_l : ∀ k, (∀ y0 y1 y2 y3, LeO (tumbrellaw09_Theirs.l0 k y0 y1 y2 y3) (tumbrellaw09_Theirs.l0 (k + 1) y0 y1 y2 y3))
 | 0 => fun _ _ _ _ r h => by simp [tumbrellaw09_Theirs.l0] at h
 | k + 1 => by
  have ih0 := tumbrellaw09_Theirs.mono_l k
  ·intro y0 y1 y2 y3
   unfold tumbrellaw09_Theirs.l0
   repeat' first
   | (with_reducible exact ih0 _ _ _ _)
   | (with_reducible exact LeO.refl _)
   | (with_reducible exact LeO.none _)
   | (with_reducible refine LeO.ite ?_ ?_)
   | (with_reducible refine LeO.bind ?_ (fun _ => ?_))
   | exact ih0 _ _ _ _
   | exact LeO.none _
   | refine LeO.ite ?_ ?_
   | refine LeO.bind ?_ (fun _ => ?_)
theorem tumbrellaw09_Theirs.mono : ∀ a0 k, LeO (tumbrellaw09_Theirs.f k a0) (tumbrellaw09_Theirs.f (k + 1) a0) := by
 intro a0 k
 have ih0 := tumbrellaw09_Theirs.mono_l k
 unfold tumbrellaw09_Theirs.f
 repeat' first
   | (with_reducible exact ih0 _ _ _ _)
   | (with_reducible exact LeO.refl _)
   | (with_reducible exact LeO.none _)
   | (with_reducible refine LeO.ite ?_ ?_)
   | (with_reducible refine LeO.bind ?_ (fun _ => ?_))
   | exact ih0 _ _ _ _
   | exact LeO.none _
   | refine LeO.ite ?_ ?_
   | refine LeO.bind ?_ (fun _ => ?_)
set_option maxHeartbeats 8000000 in
set_option maxRecDepth 100000 in
theorem tumbrellaw09_Theirs.calls (k : Nat) (A0 : Option Addr) (c0 : Nat) (l0 : List (S140)) (r : List (S86)) (w : World) (hr0 : Kd.C k140 w A0 l0.length l0) (hc0 : l0.length ≤ c0) (h : tumbrellaw09_Theirs.f k l0 = some r) :
  Calls Try.prog 43 #[.slice A0 l0.length c0] w fun e w' => ∃ v0_ : Value, e = .returned (v0_) ∧ Kd.R k86 86 w' w.heap.size (fun _ => True) v0_ r ∧ Below w.heap.size w w' := by
 have hu140 := Try.underlying140
 have HR0 := Aside0.mk hr0
 have HC0 := Aside0.mk hc0
 clear hr0 hc0
 have HB := Aside0.mk (Below.refl w.heap.size w)
 have H : (tumbrellaw09_Theirs.l0 k l0 ([] : List (S86)) (l0.length : Int) 0) = some r := h
 clear h
 have H' := Aside0.mk H
 clear H
 go_enter Try.func43, Try.ntmps43
 go_wp2
 go_loopg [3, 7] k (fun kq v3 v7 w' => ∃ (x3_1 : List (S86)) (x7_1 : Int), v7 = .int .i64 x7_1 ∧ Aside0 (tumbrellaw09_Theirs.l0 kq l0 x3_1 (l0.length : Int) x7_1 = some r) ∧ Aside0 (kq ≤ k) ∧ Aside0 (Kd.R k86 86 w' w.heap.size (fun _ => True) v3 x3_1) ∧ Aside0 (Below w.heap.size w w'))
 case atStart => exact ⟨(([] : List (S86))), (0), kz5_3, H', ⟨Nat.le_refl _⟩, ⟨by first | exact Kd.R_nil _ _ _ _ _ | exact Kd.N_nil _ _ _ _ _ | exact Kd.V_nil _ _ _ _ _ | exact Kd.Q_nil _ _ _ _ _ | exact Kd.S_nil _ _ _ _ _⟩, ⟨by repeat (first | (with_reducible first | exact HB.out | apply below_alloc | apply pw_below_drewN | apply below_drew1) | exact HB.out)⟩⟩
 case round =>
  clear H'
  obtain ⟨x3_1, x7_1, rfl, HA, HK1, HO_3, HB⟩ := hrel
  cases gk with
  | zero => exact absurd HA.out (by simp [tumbrellaw09_Theirs.l0])
  | succ k1 =>
   have H := HA.out
   clear HA
   simp only [tumbrellaw09_Theirs.l0] at H
   by_cases c2 : x7_1 < (l0.length : Int)
   ·rw [if_pos c2] at H
    have c2b0 : decide (x7_1 < (l0.length : Int)) = true := decide_eq_true c2
    clear c2
    by_cases c3 : 0 ≤ x7_1
    ·rw [if_pos c3] at H
     have c3b0 : decide (0 ≤ x7_1) = true := decide_eq_true c3
     clear c3
     by_cases c4 : x7_1 < (l0.length : Int)
     ·rw [if_pos c4] at H
      have c4b0 : decide (x7_1 < (l0.length : Int)) = true := decide_eq_true c4
      clear c4
      by_cases c5 : x3_1.length < 2932031007402
      ·rw [if_pos c5] at H
       have LMc5 := Aside0.mk c5
       clear c5
       obtain ⟨y160, hy160⟩ : ∃ y_ : List (S86), y_ = (x3_1 ++ [(⟨(rd_T140 l0 x7_1).f0, (rd_T140 l0 x7_1).f1, (rd_T140 l0 x7_1).f2, (rd_T140 l0 x7_1).f3, (rd_T140 l0 x7_1).f4, (rd_T140 l0 x7_1).f5, (rd_T140 l0 x7_1).f6⟩ : S86)]) := ⟨_, rfl⟩
       replace H : (tumbrellaw09_Theirs.l0 k1 l0 y160 (l0.length : Int) (wrap64 (x7_1 + 1))) = some r := by first | (rw [hy160]; with_reducible exact H) | (have H2_ := (Option.bind_some _ _).symm.trans H; rw [hy160]; with_reducible exact H2_) | (have H2_ := (Option.bind_some _ _).symm.trans H; with_reducible exact H2_) | with_reducible exact H | (rw [hy160]; exact H) | exact H
       have Ny160 := Aside0.mk hy160
       clear hy160
       have H' := Aside0.mk H
       clear H
       have p159 : 0 ≤ (x7_1 : Int) := of_decide_eq_true kz5_2
       have q159 : x7_1 < (l0.length : Int) := of_decide_eq_true kz5_2
       obtain ⟨ad159, e159, hx159_0, hx159_1, hx159_2, hx159_3, hx159_4, hx159_5, hx159_6⟩ := at_T140 HR0.out x7_1 p159 q159
       cases e159
       replace hx159_0 := (HB.out.cell (World.block_lt_of_cell? w _ hx159_0)).trans hx159_0
       replace hx159_1 := (HB.out.cell (World.block_lt_of_cell? w _ hx159_1)).trans hx159_1
       replace hx159_2 := (HB.out.cell (World.block_lt_of_cell? w _ hx159_2)).trans hx159_2
       replace hx159_3 := (HB.out.cell (World.block_lt_of_cell? w _ hx159_3)).trans hx159_3
       replace hx159_4 := (HB.out.cell (World.block_lt_of_cell? w _ hx159_4)).trans hx159_4
       replace hx159_5 := (HB.out.cell (World.block_lt_of_cell? w _ hx159_5)).trans hx159_5
       replace hx159_6 := (HB.out.cell (World.block_lt_of_cell? w _ hx159_6)).trans hx159_6
       replace p159 := eq_true p159
       replace q159 := eq_true q159
       go_wp2_with (first | ((with_reducible refine gate_builtin (b := .append) (xs := #[.tmp 10, .tmp 15]) rfl ?_); at_builtin; refine Kd.R_append k86 (w0 := w) w.heap.size rfl (.tmp 10) (.tmp 15) 43 86 (.agg #[(.string ⟨#[]⟩), (.int .i64 0), (.int .i64 0), (.int .i64 0), (.bool false), (.bool false), (.bool false)]) 48 rfl Try.underlying43 info86 rfl (by decide) (by omega) u3 x3_1 (⟨(rd_T140 l0 x7_1).f0, (rd_T140 l0 x7_1).f1, (rd_T140 l0 x7_1).f2, (rd_T140 l0 x7_1).f3, (rd_T140 l0 x7_1).f4, (rd_T140 l0 x7_1).f5, (rd_T140 l0 x7_1).f6⟩ : S86) [.string ((rd_T140 l0 x7_1).f0), .int .i64 ((rd_T140 l0 x7_1).f1), .int .i64 ((rd_T140 l0 x7_1).f2), .int .i64 ((rd_T140 l0 x7_1).f3), .bool ((rd_T140 l0 x7_1).f4), .bool ((rd_T140 l0 x7_1).f5), .bool ((rd_T140 l0 x7_1).f6)] (fun _ => True) (fun _ => False) rfl rfl ?aP (fun _ hk => hk.elim) ?aF ?aO ?aB ?aS ?aL ?_; (case aP => exact k86_mkM _ _ _ (⟨(rd_T140 l0 x7_1).f0, (rd_T140 l0 x7_1).f1, (rd_T140 l0 x7_1).f2, (rd_T140 l0 x7_1).f3, (rd_T140 l0 x7_1).f4, (rd_T140 l0 x7_1).f5, (rd_T140 l0 x7_1).f6⟩ : S86)); (case aB => exact kz5_1); (case aF => exact (fun _ _ => trivial)); (case aO => exact (by (with_reducible repeat (first | apply Kd.R_alloc | apply Kd.R_drewN | apply Kd.R_drew)); exact HO_3.out)); (case aS => exact (below_size kz5_1)); (case aL => have := LMc5.out; omega); intro v161 w6 ho hb hg hat; rw [← Ny160.out] at ho; have n0_ := Aside0.mk (hb); have n1_ := Aside0.mk (ho); clear HB; clear HO_3; have HB := n0_; have HO162 := n1_; clear n0_ n1_; clear ho hb hg hat))
       go_roundg k1
       case measure => have := HK1.out; omega
       case rel => exact ⟨(y160), (wrap64 (x7_1 + 1)), kz5_3, H', ⟨by have := HK1.out; omega⟩, ⟨by (with_reducible repeat (first | apply Kd.R_alloc | apply Kd.R_drewN | apply Kd.R_drew)); exact HO162.out⟩, ⟨by repeat (first | (with_reducible first | exact HB.out | apply below_alloc | apply pw_below_drewN | apply below_drew1) | exact HB.out)⟩⟩
      ·rw [if_neg c5] at H
       exact absurd H (by simp)
     ·rw [if_neg c4] at H
      exact absurd H (by simp)
    ·rw [if_neg c3] at H
     exact absurd H (by simp)
   ·rw [if_neg c2] at H
    have c2b0 : decide (x7_1 < (l0.length : Int)) = false := decide_eq_false c2
    clear c2
    obtain rfl := Option.some.inj H
    go_wp2
    go_ret
    exact ⟨_, by first | rfl | (simp [errW_none, errW_some] <;> rfl) | (simp [*, errW_none, errW_some] <;> rfl), by (with_reducible repeat (first | apply Kd.R_alloc | apply Kd.R_drewN | apply Kd.R_drew)); exact HO_3.out, by repeat (first | (with_reducible first | exact HB.out | apply below_alloc | apply pw_below_drewN | apply below_drew1) | exact HB.out)⟩

/-! ### tumbrelref09_lies: function 113 -/
mutual
def tumbrelref09_lies.l0 : Nat → List (S140) → Int → Int → Int → Option (Bool)
 | 0, _, _, _, _ => none
 | k + 1, x0, x1, x2, x7 => if x7 ≥ 0 then (tumbrelref09_lies.j1 k x0 x2 x7 (decide (x7 < x1))) else (tumbrelref09_lies.j1 k x0 x2 x7 false)
def tumbrelref09_lies.j1 : Nat → List (S140) → Int → Int → Bool → Option (Bool)
 | 0, _, _, _, _ => none
 | k + 1, x0, x2, x7, x19 => if x19 = true then (if x7 = x2 then (some true) else (if 0 ≤ x7 then (if x7 < (x0.length : Int) then (tumbrelref09_lies.l0 k x0 x7 x2 ((rd_T140 x0 x7).f1)) else (none)) else (none))) else (some false)
end
def tumbrelref09_lies.f (k : Nat) (l0 : List (S140)) (a1 : Int) (a2 : Int) : Option (Bool) := if 0 ≤ a1 then (if a1 < (l0.length : Int) then (tumbrelref09_lies.l0 k l0 a1 a2 ((rd_T140 l0 a1).f1)) else (none)) else (none)
theorem tumbrelref09_lies.mono_l : ∀ k, (∀ y0 y1 y2 y3, LeO (tumbrelref09_lies.l0 k y0 y1 y2 y3) (tumbrelref09_lies.l0 (k + 1) y0 y1 y2 y3)) ∧ (∀ y0 y1 y2 y3, LeO (tumbrelref09_lies.j1 k y0 y1 y2 y3) (tumbrelref09_lies.j1 (k + 1) y0 y1 y2 y3))
 | 0 => ⟨fun _ _ _ _ r h => by simp [tumbrelref09_lies.l0] at h, fun _ _ _ _ r h => by simp [tumbrelref09_lies.j1] at h⟩
 | k + 1 => by
  obtain ⟨ih0, ih1⟩ := tumbrelref09_lies.mono_l k
  refine ⟨?_, ?_⟩
  ·intro y0 y1 y2 y3
   unfold tumbrelref09_lies.l0
   repeat' first
   | (with_reducible exact ih0 _ _ _ _)
   | (with_reducible exact ih1 _ _ _ _)
   | (with_reducible exact LeO.refl _)
   | (with_reducible exact LeO.none _)
   | (with_reducible refine LeO.ite ?_ ?_)
   | (with_reducible refine LeO.bind ?_ (fun _ => ?_))
   | exact ih0 _ _ _ _
   | exact ih1 _ _ _ _
   | exact LeO.none _
   | refine LeO.ite ?_ ?_
   | refine LeO.bind ?_ (fun _ => ?_)
  ·intro y0 y1 y2 y3
   unfold tumbrelref09_lies.j1
   repeat' first
   | (with_reducible exact ih0 _ _ _ _)
   | (with_reducible exact ih1 _ _ _ _)
   | (with_reducible exact LeO.refl _)
   | (with_reducible exact LeO.none _)
   | (with_reducible refine LeO.ite ?_ ?_)
   | (with_reducible refine LeO.bind ?_ (fun _ => ?_))
   | exact ih0 _ _ _ _
   | exact ih1 _ _ _ _
   | exact LeO.none _
   | refine LeO.ite ?_ ?_
   | refine LeO.bind ?_ (fun _ => ?_)
theorem tumbrelref09_lies.mono : ∀ a0 a1 a2 k, LeO (tumbrelref09_lies.f k a0 a1 a2) (tumbrelref09_lies.f (k + 1) a0 a1 a2) := by
 intro a0 a1 a2 k
 obtain ⟨ih0, ih1⟩ := tumbrelref09_lies.mono_l k
 unfold tumbrelref09_lies.f
 repeat' first
   | (with_reducible exact ih0 _ _ _ _)
   | (with_reducible exact ih1 _ _ _ _)
   | (with_reducible exact LeO.refl _)
   | (with_reducible exact LeO.none _)
   | (with_reducible refine LeO.ite ?_ ?_)
   | (with_reducible refine LeO.bind ?_ (fun _ => ?_))
   | exact ih0 _ _ _ _
   | exact ih1 _ _ _ _
   | exact LeO.none _
   | refine LeO.ite ?_ ?_
   | refine LeO.bind ?_ (fun _ => ?_)
set_option maxHeartbeats 8000000 in
set_option maxRecDepth 100000 in
theorem tumbrelref09_lies.calls (k : Nat) (A0 : Option Addr) (c0 : Nat) (l0 : List (S140)) (a1 : Int) (a2 : Int) (r : Bool) (w : World) (hr0 : Kd.C k140 w A0 l0.length l0) (hc0 : l0.length ≤ c0) (h : tumbrelref09_lies.f k l0 a1 a2 = some r) :
  Calls Try.prog 113 #[.slice A0 l0.length c0, .int .i64 a1, .int .i64 a2] w fun e w' => e = .returned (.bool r) ∧ Drawn0 w w' := by
 have HR0 := Aside0.mk hr0
 have HC0 := Aside0.mk hc0
 clear hr0 hc0
 have H : (if 0 ≤ a1 then (if a1 < (l0.length : Int) then (tumbrelref09_lies.l0 k l0 a1 a2 ((rd_T140 l0 a1).f1)) else (none)) else (none)) = some r := h
 clear h
 by_cases c4 : 0 ≤ a1
 ·rw [if_pos c4] at H
  have c4b0 : decide (0 ≤ a1) = true := decide_eq_true c4
  clear c4
  by_cases c5 : a1 < (l0.length : Int)
  ·rw [if_pos c5] at H
   have c5b0 : decide (a1 < (l0.length : Int)) = true := decide_eq_true c5
   clear c5
   have H' := Aside0.mk H
   clear H
   have p163 : 0 ≤ (a1 : Int) := of_decide_eq_true kz5_2
   have q163 : a1 < (l0.length : Int) := of_decide_eq_true kz5_2
   obtain ⟨ad163, e163, hx163_0, hx163_1, hx163_2, hx163_3, hx163_4, hx163_5, hx163_6⟩ := at_T140 HR0.out a1 p163 q163
   cases e163
   replace p163 := eq_true p163
   replace q163 := eq_true q163
   go_enter Try.func113, Try.ntmps113
   go_wp2
   go_loopg [1, 7] k (fun kq v1 v7 w' => ∃ (x1_1 : Int) (x7_1 : Int), v1 = .int .i64 x1_1 ∧ v7 = .int .i64 x7_1 ∧ Aside0 (tumbrelref09_lies.l0 kq l0 x1_1 a2 x7_1 = some r) ∧ Aside0 (kq ≤ k) ∧ Drawn0 w w')
   case atStart => exact ⟨(a1), ((rd_T140 l0 a1).f1), kz5_3, kz5_3, H', ⟨Nat.le_refl _⟩, by repeat (first | exact Drawn0.refl _ | apply Drawn0.step)⟩
   case round =>
    clear H'
    try clear c1
    try clear p1
    try clear q1
    try clear hx1
    try clear p2
    try clear c4
    try clear c4b0
    try clear c5
    try clear c5b0
    try clear hx163_0
    try clear hx163_1
    try clear hx163_2
    try clear hx163_3
    try clear hx163_4
    try clear hx163_5
    try clear hx163_6
    try clear p163
    try clear q163
    obtain ⟨x1_1, x7_1, rfl, rfl, HA, HK1, ⟨m1, rfl⟩⟩ := hrel
    cases gk with
    | zero => exact absurd HA.out (by simp [tumbrelref09_lies.l0])
    | succ k1 =>
     have H := HA.out
     clear HA
     simp only [tumbrelref09_lies.l0] at H
     have HC6 := Aside0.mk H
     clear H
     go_upto_region 2 with (fail)
     go_cut [19] (fun v19 wc => ∃ (kq : Nat) (x19_5 : Bool), v19 = .bool x19_5 ∧ Aside0 (tumbrelref09_lies.j1 kq l0 a2 x7_1 x19_5 = some r) ∧ Aside0 (kq ≤ k1) ∧ Drawn0 w wc)
     case first =>
      have H := HC6.out
      clear HC6
      by_cases c7 : x7_1 ≥ 0
      ·rw [if_pos c7] at H
       have c7b0 : decide (0 ≤ x7_1) = true := decide_eq_true c7
       clear c7
       (first | rw [c7b0] | (simp only [i64_w, i32_w]; rw [c7b0]) | skip)
       have H' := Aside0.mk H
       clear H
       go_wp2
       go_meet
       case rel => exact ⟨_, (decide (x7_1 < x1_1)), kz5_3, H', ⟨by have := HK1.out; first | omega | exact Nat.le_refl _⟩, by repeat (first | exact Drawn0.refl _ | apply Drawn0.step)⟩
      ·rw [if_neg c7] at H
       have c7b0 : decide (0 ≤ x7_1) = false := decide_eq_false c7
       clear c7
       (first | rw [c7b0] | (simp only [i64_w, i32_w]; rw [c7b0]) | skip)
       have H' := Aside0.mk H
       clear H
       go_wp2
       go_meet
       case rel => exact ⟨_, (false), kz5_3, H', ⟨by have := HK1.out; first | omega | exact Nat.le_refl _⟩, by repeat (first | exact Drawn0.refl _ | apply Drawn0.step)⟩
     case rest =>
      clear HC6
      try clear c1
      try clear p1
      try clear q1
      try clear hx1
      try clear p2
      try clear c4
      try clear c4b0
      try clear c5
      try clear c5b0
      try clear c7
      try clear c7b0
      try clear hx163_0
      try clear hx163_1
      try clear hx163_2
      try clear hx163_3
      try clear hx163_4
      try clear hx163_5
      try clear hx163_6
      try clear p1
      try clear p163
      try clear p2
      try clear q1
      try clear q163
      obtain ⟨kq, x19_5, rfl, HA, HJ5, ⟨mc5, rfl⟩⟩ := hcut
      cases kq with
      | zero => exact absurd HA.out (by simp [tumbrelref09_lies.j1])
      | succ kj5 =>
       have H := HA.out
       clear HA
       simp only [tumbrelref09_lies.j1] at H
       by_cases c8 : x19_5 = true
       ·subst c8
        have H1 : (if x7_1 = a2 then (some true) else (if 0 ≤ x7_1 then (if x7_1 < (l0.length : Int) then (tumbrelref09_lies.l0 kj5 l0 x7_1 a2 ((rd_T140 l0 x7_1).f1)) else (none)) else (none))) = some r := by rw [if_pos rfl] at H; exact H
        clear H
        have H := H1
        clear H1
        by_cases c9 : x7_1 = a2
        ·rw [if_pos c9] at H
         have c9b0 : (x7_1 == a2) = true := beq_iff_eq.mpr c9
         have c9b1 : (x7_1 != a2) = false := bne_eq_false_iff_eq.mpr c9
         clear c9
         obtain rfl := Option.some.inj H
         go_wp2
         go_ret
         exact ⟨by first | rfl | (simp; done) | (simp [*]; done), by repeat (first | exact Drawn0.refl _ | apply Drawn0.step)⟩
        ·rw [if_neg c9] at H
         have c9b0 : (x7_1 == a2) = false := beq_eq_false_iff_ne.mpr c9
         have c9b1 : (x7_1 != a2) = true := bne_iff_ne.mpr c9
         by_cases c10 : 0 ≤ x7_1
         ·rw [if_pos c10] at H
          have c10b0 : decide (0 ≤ x7_1) = true := decide_eq_true c10
          clear c10
          by_cases c11 : x7_1 < (l0.length : Int)
          ·rw [if_pos c11] at H
           have c11b0 : decide (x7_1 < (l0.length : Int)) = true := decide_eq_true c11
           clear c11
           have H' := Aside0.mk H
           clear H
           have p164 : 0 ≤ (x7_1 : Int) := of_decide_eq_true kz5_2
           have q164 : x7_1 < (l0.length : Int) := of_decide_eq_true kz5_2
           obtain ⟨ad164, e164, hx164_0, hx164_1, hx164_2, hx164_3, hx164_4, hx164_5, hx164_6⟩ := at_T140 HR0.out x7_1 p164 q164
           obtain rfl : ad163 = ad164 := (by injection e164)
           replace p164 := eq_true p164
           replace q164 := eq_true q164
           go_wp2
           go_roundg kj5
           case measure => have := HK1.out; have := HJ5.out; omega
           case rel => exact ⟨(x7_1), ((rd_T140 l0 x7_1).f1), kz5_3, kz5_3, H', ⟨by have := HK1.out; have := HJ5.out; omega⟩, by repeat (first | exact Drawn0.refl _ | apply Drawn0.step)⟩
          ·rw [if_neg c11] at H
           exact absurd H (by simp)
         ·rw [if_neg c10] at H
          exact absurd H (by simp)
       ·replace c8 := Bool.eq_false_iff.mpr c8
        subst c8
        have H1 : (some false) = some r := by rw [if_neg (show ¬ (false = true) by decide)] at H; exact H
        clear H
        have H := H1
        clear H1
        obtain rfl := Option.some.inj H
        go_wp2
        go_ret
        exact ⟨by first | rfl | (simp; done) | (simp [*]; done), by repeat (first | exact Drawn0.refl _ | apply Drawn0.step)⟩
  ·rw [if_neg c5] at H
   exact absurd H (by simp)
 ·rw [if_neg c4] at H
  exact absurd H (by simp)

end Go.Proofs.Ytjghlomkimoeoaa.PConfigAsks
