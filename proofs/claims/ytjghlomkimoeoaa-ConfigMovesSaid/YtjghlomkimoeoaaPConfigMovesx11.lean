-- Written by fprint.py (wip), by way of the printer's functions; where they are turned, by texts of mine.
import Derived.Test.YtjghlomkimoeoaaPConfigMovesx0
import Derived.Test.YtjghlomkimoeoaaPConfigMovesx9
import Derived.Test.YtjghlomkimoeoaaPConfigMovesx10
namespace Go.Proofs.Ytjghlomkimoeoaa.PConfigMoves
open Go.RowKit Go.Proofs.YtjghlomkimoeoaaW.PrintWords Go.Proofs.YtjghlomkimoeoaaW.PrintLast Go.Proofs.YtjghlomkimoeoaaW.PrintMore
attribute [local go_sem] max2_int min2_int max_two min_two max_three min_three max_four min_four   -- for this text's walks alone
set_option linter.unusedVariables false
set_option linter.unusedSimpArgs false
theorem kz11_1 {p_ : Prop} (h_ : p_ := by repeat (first | (with_reducible first | exact HB.out | apply below_alloc | apply pw_below_drewN | apply below_drew1) | exact HB.out)) : p_ := h_
theorem kz11_2 {p_ : Prop} (h_ : p_ := by (try simp only [List.map_toArray, List.map_cons, List.map_nil]); first | done | rfl | (simp only [List.length_drop, List.length_take]; rfl)) : p_ := h_
theorem kz11_3 {p_ : Prop} (h_ : p_ := by first | (with_reducible assumption) | assumption) : p_ := h_
theorem kz11_4 {p_ : Prop} (h_ : p_ := by (with_reducible repeat (first | apply Kd.R_alloc | apply Kd.R_drewN | apply Kd.R_drew)); exact HO_8.out) : p_ := h_
theorem kz11_5 {p_ : Prop} (h_ : p_ := by (with_reducible repeat (first | apply Kd.R_alloc | apply Kd.R_drewN | apply Kd.R_drew)); exact HO_7.out) : p_ := h_
theorem kz11_6 {p_ : Prop} (h_ : p_ := by first | rfl | (simp; done) | (simp [*]; done)) : p_ := h_

/-! ### tumbrelref09_toward: function 97 -/
mutual
def tumbrelref09_toward.l0 : Nat → List (S140) → Int → Int → List Int → List Int → Int → Int → Option (List Int)
 | 0, _, _, _, _, _, _, _ => none
 | k + 1, x0, x1, x2, x7, x8, x22, x23 => if x23 < x22 then (if 0 ≤ x23 then (if x23 < (x8.length : Int) then ((tumbrelref09_Within.f k x0 x2 (rd x8 x23)).bind fun t306 => (if t306 = true then ((tumbrelref09_toward.f k x0 (rd x8 x23) x2).bind fun t308 => (if x7.length + t308.length < 17592186044416 then (tumbrelref09_toward.l0 k x0 x1 x2 (x7 ++ t308) x8 x22 (wrap64 (x23 + 1))) else (none))) else (if 0 ≤ x1 then (if x1 < (x0.length : Int) then (if (rd_T140 x0 x1).f4 = true then ((tumbrelref09_byDefault.f k x0 (rd x8 x23)).bind fun t316 => (if x7.length + t316.length < 17592186044416 then (tumbrelref09_toward.l0 k x0 x1 x2 (x7 ++ t316) x8 x22 (wrap64 (x23 + 1))) else (none))) else (tumbrelref09_toward.l0 k x0 x1 x2 x7 x8 x22 (wrap64 (x23 + 1)))) else (none)) else (none)))) else (none)) else (none)) else (some x7)
def tumbrelref09_toward.f : Nat → List (S140) → Int → Int → Option (List Int)
 | 0, _, _, _ => none
 | k + 1, l0, a1, a2 => if a1 = a2 then ((tumbrelref09_byDefault.f k l0 a2).bind fun t296 => (some t296)) else ((tumbrelref09_Inner.f k l0 a1).bind fun t302 => (tumbrelref09_toward.l0 k l0 a1 a2 (([a1] : List Int)) t302 (t302.length : Int) 0))
end
theorem tumbrelref09_toward.mono_l : ∀ k, (∀ y0 y1 y2, LeO (tumbrelref09_toward.f k y0 y1 y2) (tumbrelref09_toward.f (k + 1) y0 y1 y2)) ∧ (∀ y0 y1 y2 y3 y4 y5 y6, LeO (tumbrelref09_toward.l0 k y0 y1 y2 y3 y4 y5 y6) (tumbrelref09_toward.l0 (k + 1) y0 y1 y2 y3 y4 y5 y6))
 | 0 => ⟨fun _ _ _ r h => by simp [tumbrelref09_toward.f] at h, fun _ _ _ _ _ _ _ r h => by simp [tumbrelref09_toward.l0] at h⟩
 | k + 1 => by
  obtain ⟨ih0, ih1⟩ := tumbrelref09_toward.mono_l k
  refine ⟨?_, ?_⟩
  ·intro y0 y1 y2
   unfold tumbrelref09_toward.f
   repeat' first
   | (with_reducible exact ih0 _ _ _)
   | (with_reducible exact ih1 _ _ _ _ _ _ _)
   | (with_reducible exact tumbrelref09_Inner.mono _ _ _)
   | (with_reducible exact tumbrelref09_Within.mono _ _ _ _)
   | (with_reducible exact tumbrelref09_byDefault.mono _ _ _)
   | (with_reducible exact LeO.refl _)
   | (with_reducible exact LeO.none _)
   | (with_reducible refine LeO.ite ?_ ?_)
   | (with_reducible refine LeO.bind ?_ (fun _ => ?_))
   | exact ih0 _ _ _
   | exact ih1 _ _ _ _ _ _ _
   | exact tumbrelref09_Inner.mono _ _ _
   | exact tumbrelref09_Within.mono _ _ _ _
   | exact tumbrelref09_byDefault.mono _ _ _
   | exact LeO.none _
   | refine LeO.ite ?_ ?_
   | refine LeO.bind ?_ (fun _ => ?_)
  ·intro y0 y1 y2 y3 y4 y5 y6
   unfold tumbrelref09_toward.l0
   repeat' first
   | (with_reducible exact ih0 _ _ _)
   | (with_reducible exact ih1 _ _ _ _ _ _ _)
   | (with_reducible exact tumbrelref09_Inner.mono _ _ _)
   | (with_reducible exact tumbrelref09_Within.mono _ _ _ _)
   | (with_reducible exact tumbrelref09_byDefault.mono _ _ _)
   | (with_reducible exact LeO.refl _)
   | (with_reducible exact LeO.none _)
   | (with_reducible refine LeO.ite ?_ ?_)
   | (with_reducible refine LeO.bind ?_ (fun _ => ?_))
   | exact ih0 _ _ _
   | exact ih1 _ _ _ _ _ _ _
   | exact tumbrelref09_Inner.mono _ _ _
   | exact tumbrelref09_Within.mono _ _ _ _
   | exact tumbrelref09_byDefault.mono _ _ _
   | exact LeO.none _
   | refine LeO.ite ?_ ?_
   | refine LeO.bind ?_ (fun _ => ?_)
theorem tumbrelref09_toward.mono : ∀ a0 a1 a2 k, LeO (tumbrelref09_toward.f k a0 a1 a2) (tumbrelref09_toward.f (k + 1) a0 a1 a2) := by
 intro a0 a1 a2 k
 obtain ⟨ih0, ih1⟩ := tumbrelref09_toward.mono_l k
 exact ih0 a0 a1 a2
set_option maxHeartbeats 8000000 in
set_option maxRecDepth 100000 in
theorem tumbrelref09_toward.calls (k : Nat) : ∀ (A0 : Option Addr) (c0 : Nat) (l0 : List (S140)) (a1 : Int) (a2 : Int) (r : List Int) (w : World) (hr0 : Kd.C k140 w A0 l0.length l0) (hc0 : l0.length ≤ c0) (h : tumbrelref09_toward.f k l0 a1 a2 = some r),
  Calls Try.prog 97 #[.slice A0 l0.length c0, .int .i64 a1, .int .i64 a2] w fun e w' => ∃ v0_ : Value, e = .returned (v0_) ∧ Kd.R (Kd.int .i64) 3 w' w.heap.size (fun _ => True) v0_ r ∧ Below w.heap.size w w' := by
 induction k using Nat.strongRecOn with
 | _ k ih =>
 intro A0 c0 l0 a1 a2 r w hr0 hc0 h
 cases k with
 | zero => exact absurd h (by simp [tumbrelref09_toward.f])
 | succ k =>
 simp only [tumbrelref09_toward.f] at h
 have HR0 := Aside0.mk hr0
 have HC0 := Aside0.mk hc0
 clear hr0 hc0
 have HB := Aside0.mk (Below.refl w.heap.size w)
 have H : (if a1 = a2 then ((tumbrelref09_byDefault.f k l0 a2).bind fun t296 => (some t296)) else ((tumbrelref09_Inner.f k l0 a1).bind fun t302 => (tumbrelref09_toward.l0 k l0 a1 a2 (([a1] : List Int)) t302 (t302.length : Int) 0))) = some r := h
 clear h
 by_cases c4 : a1 = a2
 ·rw [if_pos c4] at H
  have c4b0 : (a1 == a2) = true := beq_iff_eq.mpr c4
  have c4b1 : (a1 != a2) = false := bne_eq_false_iff_eq.mpr c4
  clear c4
  replace H := Option.bind_eq_some_iff.mp H
  obtain ⟨t296, A50, H⟩ := H
  replace H : (some t296) = some r := H
  have A5 := Aside0.mk A50
  clear A50
  obtain rfl := Option.some.inj H
  go_enter Try.func97, Try.ntmps97
  go_wp2_with (first | ((with_reducible refine gate_callee (f := 94) rfl ?_); refine goesL_ (some 15) rfl rfl Try.func94 (by kernel_rfl) rfl #[.slice A0 l0.length c0, .int .i64 a2] rfl kz11_2 ?_; (with_reducible refine (tumbrelref09_byDefault.calls k _ _ l0 a2 t296 _ ?side1 ?side2 A5.out).mono ?_); (case side1 => repeat (first | exact HR0.out | (with_reducible refine Kd.C_alloc ?_ _) | (with_reducible refine Kd.C_drewN ?_ _) | (with_reducible refine Kd.C_drew ?_))); (case side2 => exact HC0.out); rintro e w6 ⟨v297, rfl, ho0, hb⟩; refine ⟨_, rfl, ?_⟩; have n0_ := Aside0.mk (Kd.R_lower ho0 (below_size kz11_1)); have n1_ := Aside0.mk (below_step kz11_1 hb); clear HB; have HO298 := n0_; have HB := n1_; clear n0_ n1_; (try clear hb); (try clear hb2); (try clear hk); (try clear hi); (try clear ho0)))
  go_ret
  exact ⟨_, by first | rfl | (simp [errW_none, errW_some] <;> rfl) | (simp [*, errW_none, errW_some] <;> rfl), by (with_reducible repeat (first | apply Kd.R_alloc | apply Kd.R_drewN | apply Kd.R_drew)); exact HO298.out, by repeat (first | (with_reducible first | exact HB.out | apply below_alloc | apply pw_below_drewN | apply below_drew1) | exact HB.out)⟩
 ·rw [if_neg c4] at H
  have c4b0 : (a1 == a2) = false := beq_eq_false_iff_ne.mpr c4
  have c4b1 : (a1 != a2) = true := bne_iff_ne.mpr c4
  obtain ⟨y299, hy299⟩ : ∃ y_ : List Int, y_ = (([a1] : List Int)) := ⟨_, rfl⟩
  replace H : ((tumbrelref09_Inner.f k l0 a1).bind fun t302 => (tumbrelref09_toward.l0 k l0 a1 a2 y299 t302 (t302.length : Int) 0)) = some r := by first | (rw [hy299]; with_reducible exact H) | (have H2_ := (Option.bind_some _ _).symm.trans H; rw [hy299]; with_reducible exact H2_) | (have H2_ := (Option.bind_some _ _).symm.trans H; with_reducible exact H2_) | with_reducible exact H | (rw [hy299]; exact H) | exact H
  have Ny299 := Aside0.mk hy299
  clear hy299
  replace H := Option.bind_eq_some_iff.mp H
  obtain ⟨t302, A70, H⟩ := H
  replace H : (tumbrelref09_toward.l0 k l0 a1 a2 y299 t302 (t302.length : Int) 0) = some r := H
  have A7 := Aside0.mk A70
  clear A70
  have H' := Aside0.mk H
  clear H
  go_enter Try.func97, Try.ntmps97
  go_wp2_with (first | ((with_reducible refine gate_dst (N := 17) rfl ?_); refine Kd.R_lit (Kd.int .i64) _ 3 ?hg (N := 17) ?hd (xs := ([a1] : List Int)) (inner := [.int .i64 a1]) (ok := fun _ => True) (okp := fun _ => True) ?hr ?hp (fun _ hk => hk) trivial (Below.refl _ _) (Nat.le_refl _) (by simp) ?_; (case hd => rfl); (case hg => rfl); (case hr => first | (go_simp; done) | (go_simp; rfl)); (case hp => exact (Reps.one (show Kd.M (Kd.int .i64) _ _ _ a1 [.int .i64 a1] from rfl) (Reps.none _ _))); intro v300 w8 ho9 hb hg_ hnew_; clear hg_ hnew_; (first | rw [← Ny299.out] at ho9 | (simp only [Int.reduceToNat] at ho9; rw [← Ny299.out] at ho9)); have n0_ := Aside0.mk (Kd.R_lower ho9 (below_size kz11_1)); have n1_ := Aside0.mk (below_step kz11_1 hb); clear HB; have HO301 := n0_; have HB := n1_; clear n0_ n1_; clear hb ho9) | ((with_reducible refine gate_callee (f := 89) rfl ?_); refine goesL_ (some 20) rfl rfl Try.func89 (by kernel_rfl) rfl #[.slice A0 l0.length c0, .int .i64 a1] rfl kz11_2 ?_; (with_reducible refine (tumbrelref09_Inner.calls k _ _ l0 a1 t302 _ ?side1 ?side2 A7.out).mono ?_); (case side1 => repeat (first | exact (Kd.C_below HR0.out HB.out) | (with_reducible refine Kd.C_alloc ?_ _) | (with_reducible refine Kd.C_drewN ?_ _) | (with_reducible refine Kd.C_drew ?_))); (case side2 => exact HC0.out); rintro e w10 ⟨v303, rfl, ho0, hb⟩; refine ⟨_, rfl, ?_⟩; have n0_ := Aside0.mk (Kd.R_elder' (by (with_reducible repeat (first | apply Kd.R_alloc | apply Kd.R_drewN | apply Kd.R_drew)); exact HO301.out) (Kd.R_base ho0) hb); have n1_ := Aside0.mk (Kd.R_lower (Kd.R_new' ho0 (Kd.R_lt (by (with_reducible repeat (first | apply Kd.R_alloc | apply Kd.R_drewN | apply Kd.R_drew)); exact HO301.out))) (below_size kz11_1)); have n2_ := Aside0.mk (below_step kz11_1 hb); clear HO301; clear HB; have HO301 := n0_; have HO304 := n1_; have HB := n2_; clear n0_ n1_ n2_; (try clear hb); (try clear hb2); (try clear hk); (try clear hi); (try clear ho0); obtain ⟨Ao11, co11, eo11⟩ := Kd.R_slice HO304.out; subst eo11))
  go_loopg [7, 23] k (fun kq v7 v23 w' => ∃ (x7_1 : List Int) (x23_1 : Int), v23 = .int .i64 x23_1 ∧ Aside0 (tumbrelref09_toward.l0 kq l0 a1 a2 x7_1 t302 (t302.length : Int) x23_1 = some r) ∧ Aside0 (kq ≤ k) ∧ Aside0 (Kd.R (Kd.int .i64) 3 w' w.heap.size (fun k_ => some k_ ≠ ((.slice Ao11 t302.length co11) : Value).ownBlock) v7 x7_1) ∧ Aside0 (Kd.R (Kd.int .i64) 3 w' w.heap.size (fun k_ => some k_ ≠ (v7 : Value).ownBlock) (.slice Ao11 t302.length co11) t302) ∧ Aside0 (Below w.heap.size w w'))
  case atStart => exact ⟨(y299), (0), kz11_6, H', ⟨Nat.le_refl _⟩, ⟨by (with_reducible repeat (first | apply Kd.R_alloc | apply Kd.R_drewN | apply Kd.R_drew)); exact Kd.R_mono HO301.out (fun _ hk => hk.2)⟩, ⟨by (with_reducible repeat (first | apply Kd.R_alloc | apply Kd.R_drewN | apply Kd.R_drew)); exact Kd.R_mono HO304.out (fun _ hk => hk.2)⟩, ⟨by repeat (first | (with_reducible first | exact HB.out | apply below_alloc | apply pw_below_drewN | apply below_drew1) | exact HB.out)⟩⟩
  case round =>
   clear H'
   try clear p2
   try clear c4
   try clear c4b0
   try clear c4b1
   try clear c8
   try clear c9
   obtain ⟨x7_1, x23_1, rfl, HA, HK1, HO_7, HO_8, HB⟩ := hrel
   cases gk with
   | zero => exact absurd HA.out (by simp [tumbrelref09_toward.l0])
   | succ k1 =>
    have H := HA.out
    clear HA
    simp only [tumbrelref09_toward.l0] at H
    by_cases c12 : x23_1 < (t302.length : Int)
    ·rw [if_pos c12] at H
     have c12b0 : decide (x23_1 < (t302.length : Int)) = true := decide_eq_true c12
     clear c12
     by_cases c13 : 0 ≤ x23_1
     ·rw [if_pos c13] at H
      have c13b0 : decide (0 ≤ x23_1) = true := decide_eq_true c13
      clear c13
      by_cases c14 : x23_1 < (t302.length : Int)
      ·rw [if_pos c14] at H
       have c14b0 : decide (x23_1 < (t302.length : Int)) = true := decide_eq_true c14
       clear c14
       replace H := Option.bind_eq_some_iff.mp H
       obtain ⟨t306, A150, H⟩ := H
       replace H : (if t306 = true then ((tumbrelref09_toward.f k1 l0 (rd t302 x23_1) a2).bind fun t308 => (if x7_1.length + t308.length < 17592186044416 then (tumbrelref09_toward.l0 k1 l0 a1 a2 (x7_1 ++ t308) t302 (t302.length : Int) (wrap64 (x23_1 + 1))) else (none))) else (if 0 ≤ a1 then (if a1 < (l0.length : Int) then (if (rd_T140 l0 a1).f4 = true then ((tumbrelref09_byDefault.f k1 l0 (rd t302 x23_1)).bind fun t316 => (if x7_1.length + t316.length < 17592186044416 then (tumbrelref09_toward.l0 k1 l0 a1 a2 (x7_1 ++ t316) t302 (t302.length : Int) (wrap64 (x23_1 + 1))) else (none))) else (tumbrelref09_toward.l0 k1 l0 a1 a2 x7_1 t302 (t302.length : Int) (wrap64 (x23_1 + 1)))) else (none)) else (none))) = some r := H
       have A15 := Aside0.mk A150
       clear A150
       by_cases c16 : t306 = true
       ·subst c16
        have H1 : ((tumbrelref09_toward.f k1 l0 (rd t302 x23_1) a2).bind fun t308 => (if x7_1.length + t308.length < 17592186044416 then (tumbrelref09_toward.l0 k1 l0 a1 a2 (x7_1 ++ t308) t302 (t302.length : Int) (wrap64 (x23_1 + 1))) else (none))) = some r := by rw [if_pos rfl] at H; exact H
        clear H
        have H := H1
        clear H1
        replace H := Option.bind_eq_some_iff.mp H
        obtain ⟨t308, A170, H⟩ := H
        replace H : (if x7_1.length + t308.length < 17592186044416 then (tumbrelref09_toward.l0 k1 l0 a1 a2 (x7_1 ++ t308) t302 (t302.length : Int) (wrap64 (x23_1 + 1))) else (none)) = some r := H
        have A17 := Aside0.mk A170
        clear A170
        by_cases c18 : x7_1.length + t308.length < 17592186044416
        ·rw [if_pos c18] at H
         have LMc18 := Aside0.mk c18
         clear c18
         obtain ⟨y311, hy311⟩ : ∃ y_ : List Int, y_ = (x7_1 ++ t308) := ⟨_, rfl⟩
         replace H : (tumbrelref09_toward.l0 k1 l0 a1 a2 y311 t302 (t302.length : Int) (wrap64 (x23_1 + 1))) = some r := by first | (rw [hy311]; with_reducible exact H) | (have H2_ := (Option.bind_some _ _).symm.trans H; rw [hy311]; with_reducible exact H2_) | (have H2_ := (Option.bind_some _ _).symm.trans H; with_reducible exact H2_) | with_reducible exact H | (rw [hy311]; exact H) | exact H
         have Ny311 := Aside0.mk hy311
         clear hy311
         have H' := Aside0.mk H
         clear H
         have p305 : 0 ≤ (x23_1 : Int) := of_decide_eq_true kz11_3
         have q305 : x23_1 < (t302.length : Int) := of_decide_eq_true kz11_3
         obtain ⟨ad305, e305, hx305_0⟩ := Kd.at_int (Kd.R_reads' HO_8.out).2.2 x23_1 p305 q305
         cases e305
         replace p305 := eq_true p305
         replace q305 := eq_true q305
         go_wp2_with (first | ((with_reducible refine gate_callee (f := 96) rfl ?_); refine goesL_ (some 32) rfl rfl Try.func96 (by kernel_rfl) rfl #[.slice A0 l0.length c0, .int .i64 a2, .int .i64 (rd t302 x23_1)] rfl kz11_2 ?_; (with_reducible refine (tumbrelref09_Within.calls k1 _ _ l0 a2 (rd t302 x23_1) true _ ?side1 ?side2 A15.out).mono ?_); (case side1 => repeat (first | exact (Kd.C_below HR0.out HB.out) | (with_reducible refine Kd.C_alloc ?_ _) | (with_reducible refine Kd.C_drewN ?_ _) | (with_reducible refine Kd.C_drew ?_))); (case side2 => exact HC0.out); rintro e w' ⟨rfl, ⟨nd, rfl⟩⟩; refine ⟨_, rfl, ?_⟩; have p307 : 0 ≤ (x23_1 : Int) := of_decide_eq_true kz11_3; have q307 : x23_1 < (t302.length : Int) := of_decide_eq_true kz11_3; obtain ⟨ad307, e307, hx307_0⟩ := Kd.at_int (Kd.R_reads' HO_8.out).2.2 x23_1 p307 q307; obtain rfl : ad305 = ad307 := (by injection e307); replace p307 := eq_true p307; replace q307 := eq_true q307) | ((with_reducible refine gate_callee (f := 97) rfl ?_); refine goesL_ (some 40) rfl rfl Try.func97 (by kernel_rfl) rfl #[.slice A0 l0.length c0, .int .i64 (rd t302 x23_1), .int .i64 a2] rfl kz11_2 ?_; (with_reducible refine (ih k1 (by have := HK1.out; omega) _ _ l0 (rd t302 x23_1) a2 t308 _ ?side1 ?side2 A17.out).mono ?_); (case side1 => repeat (first | exact (Kd.C_below HR0.out kz11_1) | (with_reducible refine Kd.C_alloc ?_ _) | (with_reducible refine Kd.C_drewN ?_ _) | (with_reducible refine Kd.C_drew ?_))); (case side2 => exact HC0.out); rintro e w19 ⟨v309, rfl, ho0, hb⟩; refine ⟨_, rfl, ?_⟩; have n0_ := Aside0.mk (Kd.R_elder' kz11_5 (Kd.R_base ho0) hb); have n1_ := Aside0.mk (Kd.R_elder' kz11_4 (Kd.R_base ho0) hb); have n2_ := Aside0.mk (Kd.R_lower (Kd.R_new' (Kd.R_new' ho0 (Kd.R_lt kz11_5)) (Kd.R_lt kz11_4)) (below_size kz11_1)); have n3_ := Aside0.mk (below_step kz11_1 hb); clear HO_7; clear HO_8; clear HB; have HO_7 := n0_; have HO_8 := n1_; have HO310 := n2_; have HB := n3_; clear n0_ n1_ n2_ n3_; (try clear hb); (try clear hb2); (try clear hk); (try clear hi); (try clear ho0); obtain ⟨Ao21, co21, eo21⟩ := Kd.R_slice HO310.out; subst eo21) | ((with_reducible refine gate_builtin (b := .append) (xs := #[.tmp 33, .tmp 40]) rfl ?_); at_builtin; refine Kd.R_append_rows (Kd.int .i64) (w0 := w) w.heap.size rfl (.tmp 33) (.tmp 40) 65 3 (.int .i64 0) 8 rfl Try.underlying65 info3 rfl (by decide) (by omega) u7 x7_1 t308 _ _ _ (fun k_ => some k_ ≠ (.slice (some ad305) t302.length co11 : Value).ownBlock ∧ some k_ ≠ (.slice Ao21 t308.length co21 : Value).ownBlock) (fun _ => False) rfl rfl ?aO ?aR (fun _ _ h => h) (fun _ h => h.elim) ?aF ?aB ?aS ?aL ?_; (case aR => repeat (first | exact (Kd.R_reads' HO310.out).2.2 | (with_reducible refine Kd.C_alloc ?_ _) | (with_reducible refine Kd.C_drewN ?_ _) | (with_reducible refine Kd.C_drew ?_))); (case aB => exact kz11_1); (case aF => exact (fun k_ hk => ⟨Kd.fresh' (Kd.R_lt kz11_4) k_ hk, Kd.fresh' (Kd.R_lt (by (with_reducible repeat (first | apply Kd.R_alloc | apply Kd.R_drewN | apply Kd.R_drew)); exact HO310.out)) k_ hk⟩)); (case aO => exact kz11_5); (case aS => exact (below_size kz11_1)); (case aL => have := LMc18.out; omega); intro v312 w20 ho hb hg hat; rw [← Ny311.out] at ho; have n0_ := Aside0.mk (Kd.R_after (ok := (fun k_ => some k_ ≠ (.slice Ao21 t308.length co21 : Value).ownBlock)) (by (with_reducible repeat (first | apply Kd.R_alloc | apply Kd.R_drewN | apply Kd.R_drew)); exact Kd.R_mono HO_8.out (fun _ hk => ⟨hk.2, hk.1⟩)) hg hat); have n1_ := Aside0.mk (Kd.R_after (ok := (fun k_ => some k_ ≠ (.slice (some ad305) t302.length co11 : Value).ownBlock)) (by (with_reducible repeat (first | apply Kd.R_alloc | apply Kd.R_drewN | apply Kd.R_drew)); exact Kd.R_mono HO310.out (fun _ hk => ⟨hk.2, hk.1.2⟩)) hg hat); have n2_ := Aside0.mk (hb); have n3_ := Aside0.mk (ho); clear HO_8; clear HO310; clear HB; clear HO_7; have HO_8 := n0_; have HO310 := n1_; have HB := n2_; have HO313 := n3_; clear n0_ n1_ n2_ n3_; clear ho hb hg hat))
         go_roundg k1
         case measure => have := HK1.out; omega
         case rel => exact ⟨(y311), (wrap64 (x23_1 + 1)), kz11_6, H', ⟨by have := HK1.out; omega⟩, ⟨by (with_reducible repeat (first | apply Kd.R_alloc | apply Kd.R_drewN | apply Kd.R_drew)); exact Kd.R_mono HO313.out (fun _ hk => hk.1)⟩, ⟨by (with_reducible repeat (first | apply Kd.R_alloc | apply Kd.R_drewN | apply Kd.R_drew)); exact Kd.R_mono HO_8.out (fun _ hk => hk.2)⟩, ⟨by repeat (first | (with_reducible first | exact HB.out | apply below_alloc | apply pw_below_drewN | apply below_drew1) | exact HB.out)⟩⟩
        ·rw [if_neg c18] at H
         exact absurd H (by simp)
       ·replace c16 := Bool.eq_false_iff.mpr c16
        subst c16
        have H1 : (if 0 ≤ a1 then (if a1 < (l0.length : Int) then (if (rd_T140 l0 a1).f4 = true then ((tumbrelref09_byDefault.f k1 l0 (rd t302 x23_1)).bind fun t316 => (if x7_1.length + t316.length < 17592186044416 then (tumbrelref09_toward.l0 k1 l0 a1 a2 (x7_1 ++ t316) t302 (t302.length : Int) (wrap64 (x23_1 + 1))) else (none))) else (tumbrelref09_toward.l0 k1 l0 a1 a2 x7_1 t302 (t302.length : Int) (wrap64 (x23_1 + 1)))) else (none)) else (none)) = some r := by rw [if_neg (show ¬ (false = true) by decide)] at H; exact H
        clear H
        have H := H1
        clear H1
        by_cases c22 : 0 ≤ a1
        ·rw [if_pos c22] at H
         have c22b0 : decide (0 ≤ a1) = true := decide_eq_true c22
         clear c22
         by_cases c23 : a1 < (l0.length : Int)
         ·rw [if_pos c23] at H
          have c23b0 : decide (a1 < (l0.length : Int)) = true := decide_eq_true c23
          clear c23
          obtain ⟨bq24, hbq24⟩ : ∃ b_ : Bool, b_ = ((rd_T140 l0 a1).f4) := ⟨_, rfl⟩
          replace H : (if bq24 = true then ((tumbrelref09_byDefault.f k1 l0 (rd t302 x23_1)).bind fun t316 => (if x7_1.length + t316.length < 17592186044416 then (tumbrelref09_toward.l0 k1 l0 a1 a2 (x7_1 ++ t316) t302 (t302.length : Int) (wrap64 (x23_1 + 1))) else (none))) else (tumbrelref09_toward.l0 k1 l0 a1 a2 x7_1 t302 (t302.length : Int) (wrap64 (x23_1 + 1)))) = some r := by rw [← hbq24] at H; exact H
          have Nbq24 := Aside0.mk hbq24
          clear hbq24
          by_cases c25 : bq24 = true
          ·subst c25
           have H1 : ((tumbrelref09_byDefault.f k1 l0 (rd t302 x23_1)).bind fun t316 => (if x7_1.length + t316.length < 17592186044416 then (tumbrelref09_toward.l0 k1 l0 a1 a2 (x7_1 ++ t316) t302 (t302.length : Int) (wrap64 (x23_1 + 1))) else (none))) = some r := by rw [if_pos rfl] at H; exact H
           clear H
           have H := H1
           clear H1
           replace H := Option.bind_eq_some_iff.mp H
           obtain ⟨t316, A260, H⟩ := H
           replace H : (if x7_1.length + t316.length < 17592186044416 then (tumbrelref09_toward.l0 k1 l0 a1 a2 (x7_1 ++ t316) t302 (t302.length : Int) (wrap64 (x23_1 + 1))) else (none)) = some r := H
           have A26 := Aside0.mk A260
           clear A260
           by_cases c27 : x7_1.length + t316.length < 17592186044416
           ·rw [if_pos c27] at H
            have LMc27 := Aside0.mk c27
            clear c27
            obtain ⟨y319, hy319⟩ : ∃ y_ : List Int, y_ = (x7_1 ++ t316) := ⟨_, rfl⟩
            replace H : (tumbrelref09_toward.l0 k1 l0 a1 a2 y319 t302 (t302.length : Int) (wrap64 (x23_1 + 1))) = some r := by first | (rw [hy319]; with_reducible exact H) | (have H2_ := (Option.bind_some _ _).symm.trans H; rw [hy319]; with_reducible exact H2_) | (have H2_ := (Option.bind_some _ _).symm.trans H; with_reducible exact H2_) | with_reducible exact H | (rw [hy319]; exact H) | exact H
            have Ny319 := Aside0.mk hy319
            clear hy319
            have H' := Aside0.mk H
            clear H
            have p305 : 0 ≤ (x23_1 : Int) := of_decide_eq_true kz11_3
            have q305 : x23_1 < (t302.length : Int) := of_decide_eq_true kz11_3
            obtain ⟨ad305, e305, hx305_0⟩ := Kd.at_int (Kd.R_reads' HO_8.out).2.2 x23_1 p305 q305
            cases e305
            replace p305 := eq_true p305
            replace q305 := eq_true q305
            go_wp2_with (first | ((with_reducible refine gate_callee (f := 96) rfl ?_); refine goesL_ (some 32) rfl rfl Try.func96 (by kernel_rfl) rfl #[.slice A0 l0.length c0, .int .i64 a2, .int .i64 (rd t302 x23_1)] rfl kz11_2 ?_; (with_reducible refine (tumbrelref09_Within.calls k1 _ _ l0 a2 (rd t302 x23_1) false _ ?side1 ?side2 A15.out).mono ?_); (case side1 => repeat (first | exact (Kd.C_below HR0.out HB.out) | (with_reducible refine Kd.C_alloc ?_ _) | (with_reducible refine Kd.C_drewN ?_ _) | (with_reducible refine Kd.C_drew ?_))); (case side2 => exact HC0.out); rintro e w' ⟨rfl, ⟨nd, rfl⟩⟩; refine ⟨_, rfl, ?_⟩; have p314 : 0 ≤ (a1 : Int) := of_decide_eq_true kz11_3; have q314 : a1 < (l0.length : Int) := of_decide_eq_true kz11_3; obtain ⟨ad314, e314, hx314_0, hx314_1, hx314_2, hx314_3, hx314_4, hx314_5, hx314_6⟩ := at_T140 HR0.out a1 p314 q314; (try rw [← Nbq24.out] at hx314_4); (try rw [← Nbq24.out] at hx314_5); (try rw [← Nbq24.out] at hx314_6); cases e314; replace hx314_0 := (HB.out.cell (World.block_lt_of_cell? w _ hx314_0)).trans hx314_0; replace hx314_1 := (HB.out.cell (World.block_lt_of_cell? w _ hx314_1)).trans hx314_1; replace hx314_2 := (HB.out.cell (World.block_lt_of_cell? w _ hx314_2)).trans hx314_2; replace hx314_3 := (HB.out.cell (World.block_lt_of_cell? w _ hx314_3)).trans hx314_3; replace hx314_4 := (HB.out.cell (World.block_lt_of_cell? w _ hx314_4)).trans hx314_4; replace hx314_5 := (HB.out.cell (World.block_lt_of_cell? w _ hx314_5)).trans hx314_5; replace hx314_6 := (HB.out.cell (World.block_lt_of_cell? w _ hx314_6)).trans hx314_6; replace p314 := eq_true p314; replace q314 := eq_true q314; have p315 : 0 ≤ (x23_1 : Int) := of_decide_eq_true kz11_3; have q315 : x23_1 < (t302.length : Int) := of_decide_eq_true kz11_3; obtain ⟨ad315, e315, hx315_0⟩ := Kd.at_int (Kd.R_reads' HO_8.out).2.2 x23_1 p315 q315; obtain rfl : ad305 = ad315 := (by injection e315); replace p315 := eq_true p315; replace q315 := eq_true q315) | ((with_reducible refine gate_callee (f := 94) rfl ?_); refine goesL_ (some 53) rfl rfl Try.func94 (by kernel_rfl) rfl #[.slice (some ad314) l0.length c0, .int .i64 (rd t302 x23_1)] rfl kz11_2 ?_; (with_reducible refine (tumbrelref09_byDefault.calls k1 _ _ l0 (rd t302 x23_1) t316 _ ?side1 ?side2 A26.out).mono ?_); (case side1 => repeat (first | exact (Kd.C_below HR0.out kz11_1) | (with_reducible refine Kd.C_alloc ?_ _) | (with_reducible refine Kd.C_drewN ?_ _) | (with_reducible refine Kd.C_drew ?_))); (case side2 => exact HC0.out); rintro e w28 ⟨v317, rfl, ho0, hb⟩; refine ⟨_, rfl, ?_⟩; have n0_ := Aside0.mk (Kd.R_elder' kz11_5 (Kd.R_base ho0) hb); have n1_ := Aside0.mk (Kd.R_elder' kz11_4 (Kd.R_base ho0) hb); have n2_ := Aside0.mk (Kd.R_lower (Kd.R_new' (Kd.R_new' ho0 (Kd.R_lt kz11_5)) (Kd.R_lt kz11_4)) (below_size kz11_1)); have n3_ := Aside0.mk (below_step kz11_1 hb); clear HO_7; clear HO_8; clear HB; have HO_7 := n0_; have HO_8 := n1_; have HO318 := n2_; have HB := n3_; clear n0_ n1_ n2_ n3_; (try clear hb); (try clear hb2); (try clear hk); (try clear hi); (try clear ho0); obtain ⟨Ao30, co30, eo30⟩ := Kd.R_slice HO318.out; subst eo30) | ((with_reducible refine gate_builtin (b := .append) (xs := #[.tmp 47, .tmp 53]) rfl ?_); at_builtin; refine Kd.R_append_rows (Kd.int .i64) (w0 := w) w.heap.size rfl (.tmp 47) (.tmp 53) 65 3 (.int .i64 0) 8 rfl Try.underlying65 info3 rfl (by decide) (by omega) u7 x7_1 t316 _ _ _ (fun k_ => some k_ ≠ (.slice (some ad305) t302.length co11 : Value).ownBlock ∧ some k_ ≠ (.slice Ao30 t316.length co30 : Value).ownBlock) (fun _ => False) rfl rfl ?aO ?aR (fun _ _ h => h) (fun _ h => h.elim) ?aF ?aB ?aS ?aL ?_; (case aR => repeat (first | exact (Kd.R_reads' HO318.out).2.2 | (with_reducible refine Kd.C_alloc ?_ _) | (with_reducible refine Kd.C_drewN ?_ _) | (with_reducible refine Kd.C_drew ?_))); (case aB => exact kz11_1); (case aF => exact (fun k_ hk => ⟨Kd.fresh' (Kd.R_lt kz11_4) k_ hk, Kd.fresh' (Kd.R_lt (by (with_reducible repeat (first | apply Kd.R_alloc | apply Kd.R_drewN | apply Kd.R_drew)); exact HO318.out)) k_ hk⟩)); (case aO => exact kz11_5); (case aS => exact (below_size kz11_1)); (case aL => have := LMc27.out; omega); intro v320 w29 ho hb hg hat; rw [← Ny319.out] at ho; have n0_ := Aside0.mk (Kd.R_after (ok := (fun k_ => some k_ ≠ (.slice Ao30 t316.length co30 : Value).ownBlock)) (by (with_reducible repeat (first | apply Kd.R_alloc | apply Kd.R_drewN | apply Kd.R_drew)); exact Kd.R_mono HO_8.out (fun _ hk => ⟨hk.2, hk.1⟩)) hg hat); have n1_ := Aside0.mk (Kd.R_after (ok := (fun k_ => some k_ ≠ (.slice (some ad305) t302.length co11 : Value).ownBlock)) (by (with_reducible repeat (first | apply Kd.R_alloc | apply Kd.R_drewN | apply Kd.R_drew)); exact Kd.R_mono HO318.out (fun _ hk => ⟨hk.2, hk.1.2⟩)) hg hat); have n2_ := Aside0.mk (hb); have n3_ := Aside0.mk (ho); clear HO_8; clear HO318; clear HB; clear HO_7; have HO_8 := n0_; have HO318 := n1_; have HB := n2_; have HO321 := n3_; clear n0_ n1_ n2_ n3_; clear ho hb hg hat))
            go_roundg k1
            case measure => have := HK1.out; omega
            case rel => exact ⟨(y319), (wrap64 (x23_1 + 1)), kz11_6, H', ⟨by have := HK1.out; omega⟩, ⟨by (with_reducible repeat (first | apply Kd.R_alloc | apply Kd.R_drewN | apply Kd.R_drew)); exact Kd.R_mono HO321.out (fun _ hk => hk.1)⟩, ⟨by (with_reducible repeat (first | apply Kd.R_alloc | apply Kd.R_drewN | apply Kd.R_drew)); exact Kd.R_mono HO_8.out (fun _ hk => hk.2)⟩, ⟨by repeat (first | (with_reducible first | exact HB.out | apply below_alloc | apply pw_below_drewN | apply below_drew1) | exact HB.out)⟩⟩
           ·rw [if_neg c27] at H
            exact absurd H (by simp)
          ·replace c25 := Bool.eq_false_iff.mpr c25
           subst c25
           have H1 : (tumbrelref09_toward.l0 k1 l0 a1 a2 x7_1 t302 (t302.length : Int) (wrap64 (x23_1 + 1))) = some r := by rw [if_neg (show ¬ (false = true) by decide)] at H; exact H
           clear H
           have H := H1
           clear H1
           have H' := Aside0.mk H
           clear H
           have p305 : 0 ≤ (x23_1 : Int) := of_decide_eq_true kz11_3
           have q305 : x23_1 < (t302.length : Int) := of_decide_eq_true kz11_3
           obtain ⟨ad305, e305, hx305_0⟩ := Kd.at_int (Kd.R_reads' HO_8.out).2.2 x23_1 p305 q305
           cases e305
           replace p305 := eq_true p305
           replace q305 := eq_true q305
           go_wp2_with (first | ((with_reducible refine gate_callee (f := 96) rfl ?_); refine goesL_ (some 32) rfl rfl Try.func96 (by kernel_rfl) rfl #[.slice A0 l0.length c0, .int .i64 a2, .int .i64 (rd t302 x23_1)] rfl kz11_2 ?_; (with_reducible refine (tumbrelref09_Within.calls k1 _ _ l0 a2 (rd t302 x23_1) false _ ?side1 ?side2 A15.out).mono ?_); (case side1 => repeat (first | exact (Kd.C_below HR0.out HB.out) | (with_reducible refine Kd.C_alloc ?_ _) | (with_reducible refine Kd.C_drewN ?_ _) | (with_reducible refine Kd.C_drew ?_))); (case side2 => exact HC0.out); rintro e w' ⟨rfl, ⟨nd, rfl⟩⟩; refine ⟨_, rfl, ?_⟩; have p314 : 0 ≤ (a1 : Int) := of_decide_eq_true kz11_3; have q314 : a1 < (l0.length : Int) := of_decide_eq_true kz11_3; obtain ⟨ad314, e314, hx314_0, hx314_1, hx314_2, hx314_3, hx314_4, hx314_5, hx314_6⟩ := at_T140 HR0.out a1 p314 q314; (try rw [← Nbq24.out] at hx314_4); (try rw [← Nbq24.out] at hx314_5); (try rw [← Nbq24.out] at hx314_6); cases e314; replace hx314_0 := (HB.out.cell (World.block_lt_of_cell? w _ hx314_0)).trans hx314_0; replace hx314_1 := (HB.out.cell (World.block_lt_of_cell? w _ hx314_1)).trans hx314_1; replace hx314_2 := (HB.out.cell (World.block_lt_of_cell? w _ hx314_2)).trans hx314_2; replace hx314_3 := (HB.out.cell (World.block_lt_of_cell? w _ hx314_3)).trans hx314_3; replace hx314_4 := (HB.out.cell (World.block_lt_of_cell? w _ hx314_4)).trans hx314_4; replace hx314_5 := (HB.out.cell (World.block_lt_of_cell? w _ hx314_5)).trans hx314_5; replace hx314_6 := (HB.out.cell (World.block_lt_of_cell? w _ hx314_6)).trans hx314_6; replace p314 := eq_true p314; replace q314 := eq_true q314))
           go_roundg k1
           case measure => have := HK1.out; omega
           case rel => exact ⟨(x7_1), (wrap64 (x23_1 + 1)), kz11_6, H', ⟨by have := HK1.out; omega⟩, ⟨by (with_reducible repeat (first | apply Kd.R_alloc | apply Kd.R_drewN | apply Kd.R_drew)); exact HO_7.out⟩, ⟨by (with_reducible repeat (first | apply Kd.R_alloc | apply Kd.R_drewN | apply Kd.R_drew)); exact HO_8.out⟩, ⟨by repeat (first | (with_reducible first | exact HB.out | apply below_alloc | apply pw_below_drewN | apply below_drew1) | exact HB.out)⟩⟩
         ·rw [if_neg c23] at H
          exact absurd H (by simp)
        ·rw [if_neg c22] at H
         exact absurd H (by simp)
      ·rw [if_neg c14] at H
       exact absurd H (by simp)
     ·rw [if_neg c13] at H
      exact absurd H (by simp)
    ·rw [if_neg c12] at H
     have c12b0 : decide (x23_1 < (t302.length : Int)) = false := decide_eq_false c12
     clear c12
     obtain rfl := Option.some.inj H
     go_wp2
     go_ret
     exact ⟨_, by first | rfl | (simp [errW_none, errW_some] <;> rfl) | (simp [*, errW_none, errW_some] <;> rfl), by (with_reducible repeat (first | apply Kd.R_alloc | apply Kd.R_drewN | apply Kd.R_drew)); exact Kd.R_mono HO_7.out (fun _ hk => trivial), by repeat (first | (with_reducible first | exact HB.out | apply below_alloc | apply pw_below_drewN | apply below_drew1) | exact HB.out)⟩

/-! ### tumbrelref09_Enter: function 52 -/
mutual
def tumbrelref09_Enter.j0 : Nat → List (S140) → Int → Int → Bool → Option (List Int)
 | 0, _, _, _, _ => none
 | k + 1, x0, x1, x2, x28 => if x28 = true then (some ([] : List Int)) else (tumbrelref09_Enter.l0 k x0 x1 x2 x2)
def tumbrelref09_Enter.l0 : Nat → List (S140) → Int → Int → Int → Option (List Int)
 | 0, _, _, _, _ => none
 | k + 1, x0, x1, x2, x7 => if 0 ≤ x7 then (if x7 < (x0.length : Int) then (if ((rd_T140 x0 x7).f1) = x1 then ((tumbrelref09_toward.f k x0 x7 x2).bind fun t326 => (some t326)) else (tumbrelref09_Enter.l0 k x0 x1 x2 ((rd_T140 x0 x7).f1))) else (none)) else (none)
end
def tumbrelref09_Enter.f (k : Nat) (l0 : List (S140)) (a1 : Int) (a2 : Int) : Option (List Int) := (tumbrelref09_Formed.f k l0).bind fun t322 => (if t322 = true then ((tumbrelref09_state.f l0 a2).bind fun t323 => (if t323 = true then (if a1 = a2 then (tumbrelref09_Enter.j0 k l0 a1 a2 true) else ((tumbrelref09_Within.f k l0 a2 a1).bind fun t324 => (tumbrelref09_Enter.j0 k l0 a1 a2 (!t324)))) else (tumbrelref09_Enter.j0 k l0 a1 a2 true))) else (tumbrelref09_Enter.j0 k l0 a1 a2 true))
theorem tumbrelref09_Enter.mono_l : ∀ k, (∀ y0 y1 y2 y3, LeO (tumbrelref09_Enter.j0 k y0 y1 y2 y3) (tumbrelref09_Enter.j0 (k + 1) y0 y1 y2 y3)) ∧ (∀ y0 y1 y2 y3, LeO (tumbrelref09_Enter.l0 k y0 y1 y2 y3) (tumbrelref09_Enter.l0 (k + 1) y0 y1 y2 y3))
 | 0 => ⟨fun _ _ _ _ r h => by simp [tumbrelref09_Enter.j0] at h, fun _ _ _ _ r h => by simp [tumbrelref09_Enter.l0] at h⟩
 | k + 1 => by
  obtain ⟨ih0, ih1⟩ := tumbrelref09_Enter.mono_l k
  refine ⟨?_, ?_⟩
  ·intro y0 y1 y2 y3
   unfold tumbrelref09_Enter.j0
   repeat' first
   | (with_reducible exact ih0 _ _ _ _)
   | (with_reducible exact ih1 _ _ _ _)
   | (with_reducible exact tumbrelref09_Formed.mono _ _)
   | (with_reducible exact tumbrelref09_Within.mono _ _ _ _)
   | (with_reducible exact tumbrelref09_toward.mono _ _ _ _)
   | (with_reducible exact LeO.refl _)
   | (with_reducible exact LeO.none _)
   | (with_reducible refine LeO.ite ?_ ?_)
   | (with_reducible refine LeO.bind ?_ (fun _ => ?_))
   | exact ih0 _ _ _ _
   | exact ih1 _ _ _ _
   | exact tumbrelref09_Formed.mono _ _
   | exact tumbrelref09_Within.mono _ _ _ _
   | exact tumbrelref09_toward.mono _ _ _ _
   | exact LeO.none _
   | refine LeO.ite ?_ ?_
   | refine LeO.bind ?_ (fun _ => ?_)
  ·intro y0 y1 y2 y3
   unfold tumbrelref09_Enter.l0
   repeat' first
   | (with_reducible exact ih0 _ _ _ _)
   | (with_reducible exact ih1 _ _ _ _)
   | (with_reducible exact tumbrelref09_Formed.mono _ _)
   | (with_reducible exact tumbrelref09_Within.mono _ _ _ _)
   | (with_reducible exact tumbrelref09_toward.mono _ _ _ _)
   | (with_reducible exact LeO.refl _)
   | (with_reducible exact LeO.none _)
   | (with_reducible refine LeO.ite ?_ ?_)
   | (with_reducible refine LeO.bind ?_ (fun _ => ?_))
   | exact ih0 _ _ _ _
   | exact ih1 _ _ _ _
   | exact tumbrelref09_Formed.mono _ _
   | exact tumbrelref09_Within.mono _ _ _ _
   | exact tumbrelref09_toward.mono _ _ _ _
   | exact LeO.none _
   | refine LeO.ite ?_ ?_
   | refine LeO.bind ?_ (fun _ => ?_)
theorem tumbrelref09_Enter.mono : ∀ a0 a1 a2 k, LeO (tumbrelref09_Enter.f k a0 a1 a2) (tumbrelref09_Enter.f (k + 1) a0 a1 a2) := by
 intro a0 a1 a2 k
 obtain ⟨ih0, ih1⟩ := tumbrelref09_Enter.mono_l k
 unfold tumbrelref09_Enter.f
 repeat' first
   | (with_reducible exact ih0 _ _ _ _)
   | (with_reducible exact ih1 _ _ _ _)
   | (with_reducible exact tumbrelref09_Formed.mono _ _)
   | (with_reducible exact tumbrelref09_Within.mono _ _ _ _)
   | (with_reducible exact tumbrelref09_toward.mono _ _ _ _)
   | (with_reducible exact LeO.refl _)
   | (with_reducible exact LeO.none _)
   | (with_reducible refine LeO.ite ?_ ?_)
   | (with_reducible refine LeO.bind ?_ (fun _ => ?_))
   | exact ih0 _ _ _ _
   | exact ih1 _ _ _ _
   | exact tumbrelref09_Formed.mono _ _
   | exact tumbrelref09_Within.mono _ _ _ _
   | exact tumbrelref09_toward.mono _ _ _ _
   | exact LeO.none _
   | refine LeO.ite ?_ ?_
   | refine LeO.bind ?_ (fun _ => ?_)
set_option maxHeartbeats 8000000 in
set_option maxRecDepth 100000 in
theorem tumbrelref09_Enter.calls (k : Nat) (A0 : Option Addr) (c0 : Nat) (l0 : List (S140)) (a1 : Int) (a2 : Int) (r : List Int) (w : World) (hr0 : Kd.C k140 w A0 l0.length l0) (hc0 : l0.length ≤ c0) (h : tumbrelref09_Enter.f k l0 a1 a2 = some r) :
  Calls Try.prog 52 #[.slice A0 l0.length c0, .int .i64 a1, .int .i64 a2] w fun e w' => ∃ v0_ : Value, e = .returned (v0_) ∧ Kd.R (Kd.int .i64) 3 w' w.heap.size (fun _ => True) v0_ r ∧ Below w.heap.size w w' := by
 have HR0 := Aside0.mk hr0
 have HC0 := Aside0.mk hc0
 clear hr0 hc0
 have HB := Aside0.mk (Below.refl w.heap.size w)
 have H : ((tumbrelref09_Formed.f k l0).bind fun t322 => (if t322 = true then ((tumbrelref09_state.f l0 a2).bind fun t323 => (if t323 = true then (if a1 = a2 then (tumbrelref09_Enter.j0 k l0 a1 a2 true) else ((tumbrelref09_Within.f k l0 a2 a1).bind fun t324 => (tumbrelref09_Enter.j0 k l0 a1 a2 (!t324)))) else (tumbrelref09_Enter.j0 k l0 a1 a2 true))) else (tumbrelref09_Enter.j0 k l0 a1 a2 true))) = some r := h
 clear h
 have HC4 := Aside0.mk H
 clear H
 go_enter Try.func52, Try.ntmps52
 go_upto_region 1 with (fail)
 go_cut [28] (fun v28 wc => ∃ (kq : Nat) (x28_3 : Bool), v28 = .bool x28_3 ∧ Aside0 (tumbrelref09_Enter.j0 kq l0 a1 a2 x28_3 = some r) ∧ Aside0 (kq ≤ k) ∧ Aside0 (Below w.heap.size w wc))
 case first =>
  have H := HC4.out
  clear HC4
  replace H := Option.bind_eq_some_iff.mp H
  obtain ⟨t322, A50, H⟩ := H
  replace H : (if t322 = true then ((tumbrelref09_state.f l0 a2).bind fun t323 => (if t323 = true then (if a1 = a2 then (tumbrelref09_Enter.j0 k l0 a1 a2 true) else ((tumbrelref09_Within.f k l0 a2 a1).bind fun t324 => (tumbrelref09_Enter.j0 k l0 a1 a2 (!t324)))) else (tumbrelref09_Enter.j0 k l0 a1 a2 true))) else (tumbrelref09_Enter.j0 k l0 a1 a2 true)) = some r := H
  have A5 := Aside0.mk A50
  clear A50
  by_cases c6 : t322 = true
  ·subst c6
   have H1 : ((tumbrelref09_state.f l0 a2).bind fun t323 => (if t323 = true then (if a1 = a2 then (tumbrelref09_Enter.j0 k l0 a1 a2 true) else ((tumbrelref09_Within.f k l0 a2 a1).bind fun t324 => (tumbrelref09_Enter.j0 k l0 a1 a2 (!t324)))) else (tumbrelref09_Enter.j0 k l0 a1 a2 true))) = some r := by rw [if_pos rfl] at H; exact H
   clear H
   have H := H1
   clear H1
   replace H := Option.bind_eq_some_iff.mp H
   obtain ⟨t323, A70, H⟩ := H
   replace H : (if t323 = true then (if a1 = a2 then (tumbrelref09_Enter.j0 k l0 a1 a2 true) else ((tumbrelref09_Within.f k l0 a2 a1).bind fun t324 => (tumbrelref09_Enter.j0 k l0 a1 a2 (!t324)))) else (tumbrelref09_Enter.j0 k l0 a1 a2 true)) = some r := H
   have A7 := Aside0.mk A70
   clear A70
   by_cases c8 : t323 = true
   ·subst c8
    have H1 : (if a1 = a2 then (tumbrelref09_Enter.j0 k l0 a1 a2 true) else ((tumbrelref09_Within.f k l0 a2 a1).bind fun t324 => (tumbrelref09_Enter.j0 k l0 a1 a2 (!t324)))) = some r := by rw [if_pos rfl] at H; exact H
    clear H
    have H := H1
    clear H1
    by_cases c9 : a1 = a2
    ·rw [if_pos c9] at H
     have c9b0 : (a1 == a2) = true := beq_iff_eq.mpr c9
     have c9b1 : (a1 != a2) = false := bne_eq_false_iff_eq.mpr c9
     clear c9
     (first | rw [c9b0] | (simp only [i64_w, i32_w]; rw [c9b0]) | skip)
     have H' := Aside0.mk H
     clear H
     go_wp2_with (first | ((with_reducible refine gate_callee (f := 86) rfl ?_); refine goesL_ (some 9) rfl rfl Try.func86 (by kernel_rfl) rfl #[.slice A0 l0.length c0] rfl kz11_2 ?_; (with_reducible refine (tumbrelref09_Formed.calls k _ _ l0 true _ ?side1 ?side2 A5.out).mono ?_); (case side1 => repeat (first | exact (Kd.C_below HR0.out HB.out) | (with_reducible refine Kd.C_alloc ?_ _) | (with_reducible refine Kd.C_drewN ?_ _) | (with_reducible refine Kd.C_drew ?_))); (case side2 => exact HC0.out); rintro e w' ⟨rfl, ⟨nd, rfl⟩⟩; refine ⟨_, rfl, ?_⟩) | (go_at_call 87; (with_reducible refine (tumbrelref09_state.calls _ _ l0 a2 true _ ?side1 ?side2 A7.out).mono ?_); (case side1 => repeat (first | exact (Kd.C_below HR0.out kz11_1) | (with_reducible refine Kd.C_alloc ?_ _) | (with_reducible refine Kd.C_drewN ?_ _) | (with_reducible refine Kd.C_drew ?_))); (case side2 => exact HC0.out); rintro e w' ⟨rfl, ⟨nd, rfl⟩⟩))
     go_meet
     case rel => exact ⟨_, (true), kz11_6, H', ⟨by first | omega | exact Nat.le_refl _⟩, ⟨by repeat (first | (with_reducible first | exact HB.out | apply below_alloc | apply pw_below_drewN | apply below_drew1) | exact HB.out)⟩⟩
    ·rw [if_neg c9] at H
     have c9b0 : (a1 == a2) = false := beq_eq_false_iff_ne.mpr c9
     have c9b1 : (a1 != a2) = true := bne_iff_ne.mpr c9
     (first | rw [c9b0] | (simp only [i64_w, i32_w]; rw [c9b0]) | skip)
     replace H := Option.bind_eq_some_iff.mp H
     obtain ⟨t324, A100, H⟩ := H
     replace H : (tumbrelref09_Enter.j0 k l0 a1 a2 (!t324)) = some r := H
     have A10 := Aside0.mk A100
     clear A100
     have H' := Aside0.mk H
     clear H
     go_wp2_with (first | ((with_reducible refine gate_callee (f := 86) rfl ?_); refine goesL_ (some 9) rfl rfl Try.func86 (by kernel_rfl) rfl #[.slice A0 l0.length c0] rfl kz11_2 ?_; (with_reducible refine (tumbrelref09_Formed.calls k _ _ l0 true _ ?side1 ?side2 A5.out).mono ?_); (case side1 => repeat (first | exact (Kd.C_below HR0.out HB.out) | (with_reducible refine Kd.C_alloc ?_ _) | (with_reducible refine Kd.C_drewN ?_ _) | (with_reducible refine Kd.C_drew ?_))); (case side2 => exact HC0.out); rintro e w' ⟨rfl, ⟨nd, rfl⟩⟩; refine ⟨_, rfl, ?_⟩) | (go_at_call 87; (with_reducible refine (tumbrelref09_state.calls _ _ l0 a2 true _ ?side1 ?side2 A7.out).mono ?_); (case side1 => repeat (first | exact (Kd.C_below HR0.out kz11_1) | (with_reducible refine Kd.C_alloc ?_ _) | (with_reducible refine Kd.C_drewN ?_ _) | (with_reducible refine Kd.C_drew ?_))); (case side2 => exact HC0.out); rintro e w' ⟨rfl, ⟨nd, rfl⟩⟩) | (go_at_call 96; (with_reducible refine (tumbrelref09_Within.calls k _ _ l0 a2 a1 t324 _ ?side1 ?side2 A10.out).mono ?_); (case side1 => repeat (first | exact (Kd.C_below HR0.out kz11_1) | (with_reducible refine Kd.C_alloc ?_ _) | (with_reducible refine Kd.C_drewN ?_ _) | (with_reducible refine Kd.C_drew ?_))); (case side2 => exact HC0.out); rintro e w' ⟨rfl, ⟨nd, rfl⟩⟩))
     go_meet
     case rel => exact ⟨_, (!t324), kz11_6, H', ⟨by first | omega | exact Nat.le_refl _⟩, ⟨by repeat (first | (with_reducible first | exact HB.out | apply below_alloc | apply pw_below_drewN | apply below_drew1) | exact HB.out)⟩⟩
   ·replace c8 := Bool.eq_false_iff.mpr c8
    subst c8
    have H1 : (tumbrelref09_Enter.j0 k l0 a1 a2 true) = some r := by rw [if_neg (show ¬ (false = true) by decide)] at H; exact H
    clear H
    have H := H1
    clear H1
    have H' := Aside0.mk H
    clear H
    go_wp2_with (first | ((with_reducible refine gate_callee (f := 86) rfl ?_); refine goesL_ (some 9) rfl rfl Try.func86 (by kernel_rfl) rfl #[.slice A0 l0.length c0] rfl kz11_2 ?_; (with_reducible refine (tumbrelref09_Formed.calls k _ _ l0 true _ ?side1 ?side2 A5.out).mono ?_); (case side1 => repeat (first | exact (Kd.C_below HR0.out HB.out) | (with_reducible refine Kd.C_alloc ?_ _) | (with_reducible refine Kd.C_drewN ?_ _) | (with_reducible refine Kd.C_drew ?_))); (case side2 => exact HC0.out); rintro e w' ⟨rfl, ⟨nd, rfl⟩⟩; refine ⟨_, rfl, ?_⟩) | (go_at_call 87; (with_reducible refine (tumbrelref09_state.calls _ _ l0 a2 false _ ?side1 ?side2 A7.out).mono ?_); (case side1 => repeat (first | exact (Kd.C_below HR0.out kz11_1) | (with_reducible refine Kd.C_alloc ?_ _) | (with_reducible refine Kd.C_drewN ?_ _) | (with_reducible refine Kd.C_drew ?_))); (case side2 => exact HC0.out); rintro e w' ⟨rfl, ⟨nd, rfl⟩⟩))
    go_meet
    case rel => exact ⟨_, (true), kz11_6, H', ⟨by first | omega | exact Nat.le_refl _⟩, ⟨by repeat (first | (with_reducible first | exact HB.out | apply below_alloc | apply pw_below_drewN | apply below_drew1) | exact HB.out)⟩⟩
  ·replace c6 := Bool.eq_false_iff.mpr c6
   subst c6
   have H1 : (tumbrelref09_Enter.j0 k l0 a1 a2 true) = some r := by rw [if_neg (show ¬ (false = true) by decide)] at H; exact H
   clear H
   have H := H1
   clear H1
   have H' := Aside0.mk H
   clear H
   go_wp2_with (first | ((with_reducible refine gate_callee (f := 86) rfl ?_); refine goesL_ (some 9) rfl rfl Try.func86 (by kernel_rfl) rfl #[.slice A0 l0.length c0] rfl kz11_2 ?_; (with_reducible refine (tumbrelref09_Formed.calls k _ _ l0 false _ ?side1 ?side2 A5.out).mono ?_); (case side1 => repeat (first | exact (Kd.C_below HR0.out HB.out) | (with_reducible refine Kd.C_alloc ?_ _) | (with_reducible refine Kd.C_drewN ?_ _) | (with_reducible refine Kd.C_drew ?_))); (case side2 => exact HC0.out); rintro e w' ⟨rfl, ⟨nd, rfl⟩⟩; refine ⟨_, rfl, ?_⟩))
   go_meet
   case rel => exact ⟨_, (true), kz11_6, H', ⟨by first | omega | exact Nat.le_refl _⟩, ⟨by repeat (first | (with_reducible first | exact HB.out | apply below_alloc | apply pw_below_drewN | apply below_drew1) | exact HB.out)⟩⟩
 case rest =>
  clear HC4
  try clear p2
  try clear c5
  try clear c6
  try clear c8
  try clear c9
  try clear c9b0
  try clear c9b1
  obtain ⟨kq, x28_3, rfl, HA, HJ3, HB⟩ := hcut
  cases kq with
  | zero => exact absurd HA.out (by simp [tumbrelref09_Enter.j0])
  | succ kj3 =>
   have H := HA.out
   clear HA
   simp only [tumbrelref09_Enter.j0] at H
   by_cases c11 : x28_3 = true
   ·subst c11
    have H1 : (some ([] : List Int)) = some r := by rw [if_pos rfl] at H; exact H
    clear H
    have H := H1
    clear H1
    obtain rfl := Option.some.inj H
    go_wp2
    go_ret
    exact ⟨_, by first | rfl | (simp [errW_none, errW_some] <;> rfl) | (simp [*, errW_none, errW_some] <;> rfl), by first | exact Kd.R_nil _ _ _ _ _ | exact Kd.N_nil _ _ _ _ _ | exact Kd.V_nil _ _ _ _ _ | exact Kd.Q_nil _ _ _ _ _ | exact Kd.S_nil _ _ _ _ _, by repeat (first | (with_reducible first | exact HB.out | apply below_alloc | apply pw_below_drewN | apply below_drew1) | exact HB.out)⟩
   ·replace c11 := Bool.eq_false_iff.mpr c11
    subst c11
    have H1 : (tumbrelref09_Enter.l0 kj3 l0 a1 a2 a2) = some r := by rw [if_neg (show ¬ (false = true) by decide)] at H; exact H
    clear H
    have H := H1
    clear H1
    have H' := Aside0.mk H
    clear H
    go_wp2
    go_loopg [7] kj3 (fun kq v7 w' => ∃ (x7_2 : Int), v7 = .int .i64 x7_2 ∧ Aside0 (tumbrelref09_Enter.l0 kq l0 a1 a2 x7_2 = some r) ∧ Aside0 (kq ≤ kj3) ∧ Aside0 (Below w.heap.size w w'))
    case atStart => exact ⟨(a2), kz11_6, H', ⟨Nat.le_refl _⟩, ⟨by repeat (first | (with_reducible first | exact HB.out | apply below_alloc | apply pw_below_drewN | apply below_drew1) | exact HB.out)⟩⟩
    case round =>
     clear H'
     try clear c1
     try clear p2
     try clear c5
     try clear c6
     try clear c8
     try clear c9
     try clear c9b0
     try clear c9b1
     try clear c11
     try clear p2
     obtain ⟨x7_2, rfl, HA, HK2, HB⟩ := hrel
     cases gk with
     | zero => exact absurd HA.out (by simp [tumbrelref09_Enter.l0])
     | succ k2 =>
      have H := HA.out
      clear HA
      simp only [tumbrelref09_Enter.l0] at H
      by_cases c12 : 0 ≤ x7_2
      ·rw [if_pos c12] at H
       have c12b0 : decide (0 ≤ x7_2) = true := decide_eq_true c12
       clear c12
       by_cases c13 : x7_2 < (l0.length : Int)
       ·rw [if_pos c13] at H
        have c13b0 : decide (x7_2 < (l0.length : Int)) = true := decide_eq_true c13
        clear c13
        by_cases c14 : ((rd_T140 l0 x7_2).f1) = a1
        ·rw [if_pos c14] at H
         have c14b0 : (((rd_T140 l0 x7_2).f1) == a1) = true := beq_iff_eq.mpr c14
         have c14b1 : (((rd_T140 l0 x7_2).f1) != a1) = false := bne_eq_false_iff_eq.mpr c14
         clear c14
         replace H := Option.bind_eq_some_iff.mp H
         obtain ⟨t326, A150, H⟩ := H
         replace H : (some t326) = some r := H
         have A15 := Aside0.mk A150
         clear A150
         obtain rfl := Option.some.inj H
         have p325 : 0 ≤ (x7_2 : Int) := of_decide_eq_true kz11_3
         have q325 : x7_2 < (l0.length : Int) := of_decide_eq_true kz11_3
         obtain ⟨ad325, e325, hx325_0, hx325_1, hx325_2, hx325_3, hx325_4, hx325_5, hx325_6⟩ := at_T140 HR0.out x7_2 p325 q325
         cases e325
         replace hx325_0 := (HB.out.cell (World.block_lt_of_cell? w _ hx325_0)).trans hx325_0
         replace hx325_1 := (HB.out.cell (World.block_lt_of_cell? w _ hx325_1)).trans hx325_1
         replace hx325_2 := (HB.out.cell (World.block_lt_of_cell? w _ hx325_2)).trans hx325_2
         replace hx325_3 := (HB.out.cell (World.block_lt_of_cell? w _ hx325_3)).trans hx325_3
         replace hx325_4 := (HB.out.cell (World.block_lt_of_cell? w _ hx325_4)).trans hx325_4
         replace hx325_5 := (HB.out.cell (World.block_lt_of_cell? w _ hx325_5)).trans hx325_5
         replace hx325_6 := (HB.out.cell (World.block_lt_of_cell? w _ hx325_6)).trans hx325_6
         replace p325 := eq_true p325
         replace q325 := eq_true q325
         go_wp2_with (first | ((with_reducible refine gate_callee (f := 97) rfl ?_); refine goesL_ (some 45) rfl rfl Try.func97 (by kernel_rfl) rfl #[.slice (some ad325) l0.length c0, .int .i64 x7_2, .int .i64 a2] rfl kz11_2 ?_; (with_reducible refine (tumbrelref09_toward.calls k2 _ _ l0 x7_2 a2 t326 _ ?side1 ?side2 A15.out).mono ?_); (case side1 => repeat (first | exact (Kd.C_below HR0.out HB.out) | (with_reducible refine Kd.C_alloc ?_ _) | (with_reducible refine Kd.C_drewN ?_ _) | (with_reducible refine Kd.C_drew ?_))); (case side2 => exact HC0.out); rintro e w16 ⟨v327, rfl, ho0, hb⟩; refine ⟨_, rfl, ?_⟩; have n0_ := Aside0.mk (Kd.R_lower ho0 (below_size kz11_1)); have n1_ := Aside0.mk (below_step kz11_1 hb); clear HB; have HO328 := n0_; have HB := n1_; clear n0_ n1_; (try clear hb); (try clear hb2); (try clear hk); (try clear hi); (try clear ho0)))
         go_ret
         exact ⟨_, by first | rfl | (simp [errW_none, errW_some] <;> rfl) | (simp [*, errW_none, errW_some] <;> rfl), by (with_reducible repeat (first | apply Kd.R_alloc | apply Kd.R_drewN | apply Kd.R_drew)); exact HO328.out, by repeat (first | (with_reducible first | exact HB.out | apply below_alloc | apply pw_below_drewN | apply below_drew1) | exact HB.out)⟩
        ·rw [if_neg c14] at H
         have c14b0 : (((rd_T140 l0 x7_2).f1) == a1) = false := beq_eq_false_iff_ne.mpr c14
         have c14b1 : (((rd_T140 l0 x7_2).f1) != a1) = true := bne_iff_ne.mpr c14
         have H' := Aside0.mk H
         clear H
         have p325 : 0 ≤ (x7_2 : Int) := of_decide_eq_true kz11_3
         have q325 : x7_2 < (l0.length : Int) := of_decide_eq_true kz11_3
         obtain ⟨ad325, e325, hx325_0, hx325_1, hx325_2, hx325_3, hx325_4, hx325_5, hx325_6⟩ := at_T140 HR0.out x7_2 p325 q325
         cases e325
         replace hx325_0 := (HB.out.cell (World.block_lt_of_cell? w _ hx325_0)).trans hx325_0
         replace hx325_1 := (HB.out.cell (World.block_lt_of_cell? w _ hx325_1)).trans hx325_1
         replace hx325_2 := (HB.out.cell (World.block_lt_of_cell? w _ hx325_2)).trans hx325_2
         replace hx325_3 := (HB.out.cell (World.block_lt_of_cell? w _ hx325_3)).trans hx325_3
         replace hx325_4 := (HB.out.cell (World.block_lt_of_cell? w _ hx325_4)).trans hx325_4
         replace hx325_5 := (HB.out.cell (World.block_lt_of_cell? w _ hx325_5)).trans hx325_5
         replace hx325_6 := (HB.out.cell (World.block_lt_of_cell? w _ hx325_6)).trans hx325_6
         replace p325 := eq_true p325
         replace q325 := eq_true q325
         have p329 : 0 ≤ (x7_2 : Int) := of_decide_eq_true kz11_3
         have q329 : x7_2 < (l0.length : Int) := of_decide_eq_true kz11_3
         obtain ⟨ad329, e329, hx329_0, hx329_1, hx329_2, hx329_3, hx329_4, hx329_5, hx329_6⟩ := at_T140 HR0.out x7_2 p329 q329
         obtain rfl : ad325 = ad329 := (by injection e329)
         replace hx329_0 := (HB.out.cell (World.block_lt_of_cell? w _ hx329_0)).trans hx329_0
         replace hx329_1 := (HB.out.cell (World.block_lt_of_cell? w _ hx329_1)).trans hx329_1
         replace hx329_2 := (HB.out.cell (World.block_lt_of_cell? w _ hx329_2)).trans hx329_2
         replace hx329_3 := (HB.out.cell (World.block_lt_of_cell? w _ hx329_3)).trans hx329_3
         replace hx329_4 := (HB.out.cell (World.block_lt_of_cell? w _ hx329_4)).trans hx329_4
         replace hx329_5 := (HB.out.cell (World.block_lt_of_cell? w _ hx329_5)).trans hx329_5
         replace hx329_6 := (HB.out.cell (World.block_lt_of_cell? w _ hx329_6)).trans hx329_6
         replace p329 := eq_true p329
         replace q329 := eq_true q329
         go_wp2
         go_roundg k2
         case measure => have := HJ3.out; have := HK2.out; omega
         case rel => exact ⟨((rd_T140 l0 x7_2).f1), kz11_6, H', ⟨by have := HJ3.out; have := HK2.out; omega⟩, ⟨by repeat (first | (with_reducible first | exact HB.out | apply below_alloc | apply pw_below_drewN | apply below_drew1) | exact HB.out)⟩⟩
       ·rw [if_neg c13] at H
        exact absurd H (by simp)
      ·rw [if_neg c12] at H
       exact absurd H (by simp)

/-! ### tumbrelref09_has: function 88 -/
def tumbrelref09_has.l0 : Nat → List Int → Int → Int → Int → Option (Bool)
 | 0, _, _, _, _ => none
 | k + 1, x0, x1, x7, x8 => if x8 < x7 then (if 0 ≤ x8 then (if x8 < (x0.length : Int) then (if (rd x0 x8) = x1 then (some true) else (tumbrelref09_has.l0 k x0 x1 x7 (wrap64 (x8 + 1)))) else (none)) else (none)) else (some false)
def tumbrelref09_has.f (k : Nat) (l0 : List Int) (a1 : Int) : Option (Bool) := tumbrelref09_has.l0 k l0 a1 (l0.length : Int) 0
theorem tumbrelref09_has.mono_l : ∀ k, (∀ y0 y1 y2 y3, LeO (tumbrelref09_has.l0 k y0 y1 y2 y3) (tumbrelref09_has.l0 (k + 1) y0 y1 y2 y3))
 | 0 => fun _ _ _ _ r h => by simp [tumbrelref09_has.l0] at h
 | k + 1 => by
  have ih0 := tumbrelref09_has.mono_l k
  ·intro y0 y1 y2 y3
   unfold tumbrelref09_has.l0
   repeat' first
   | (with_reducible exact ih0 _ _ _ _)
   | (with_reducible exact LeO.refl _)
   | (with_reducible exact LeO.none _)
   | (with_reducible refine LeO.ite ?_ ?_)
   | (with_reducible refine LeO.bind ?_ (fun _ => ?_))
   | exact ih0 _ _ _ _
   | exact LeO.none _
   | refine LeO.ite ?_ ?_
   | refine LeO.bind ?_ (fun _ => ?_)
theorem tumbrelref09_has.mono : ∀ a0 a1 k, LeO (tumbrelref09_has.f k a0 a1) (tumbrelref09_has.f (k + 1) a0 a1) := by
 intro a0 a1 k
 have ih0 := tumbrelref09_has.mono_l k
 unfold tumbrelref09_has.f
 repeat' first
   | (with_reducible exact ih0 _ _ _ _)
   | (with_reducible exact LeO.refl _)
   | (with_reducible exact LeO.none _)
   | (with_reducible refine LeO.ite ?_ ?_)
   | (with_reducible refine LeO.bind ?_ (fun _ => ?_))
   | exact ih0 _ _ _ _
   | exact LeO.none _
   | refine LeO.ite ?_ ?_
   | refine LeO.bind ?_ (fun _ => ?_)
set_option maxHeartbeats 8000000 in
set_option maxRecDepth 100000 in
theorem tumbrelref09_has.calls (k : Nat) (A0 : Option Addr) (c0 : Nat) (l0 : List Int) (a1 : Int) (r : Bool) (w : World) (hr0 : Kd.C (Kd.int .i64) w A0 l0.length l0) (hc0 : l0.length ≤ c0) (h : tumbrelref09_has.f k l0 a1 = some r) :
  Calls Try.prog 88 #[.slice A0 l0.length c0, .int .i64 a1] w fun e w' => e = .returned (.bool r) ∧ Drawn0 w w' := by
 have HR0 := Aside0.mk hr0
 have HC0 := Aside0.mk hc0
 clear hr0 hc0
 have H : (tumbrelref09_has.l0 k l0 a1 (l0.length : Int) 0) = some r := h
 clear h
 have H' := Aside0.mk H
 clear H
 go_enter Try.func88, Try.ntmps88
 go_wp2
 go_loopg [8] k (fun kq v8 w' => ∃ (x8_1 : Int), v8 = .int .i64 x8_1 ∧ Aside0 (tumbrelref09_has.l0 kq l0 a1 (l0.length : Int) x8_1 = some r) ∧ Aside0 (kq ≤ k) ∧ Drawn0 w w')
 case atStart => exact ⟨(0), kz11_6, H', ⟨Nat.le_refl _⟩, by repeat (first | exact Drawn0.refl _ | apply Drawn0.step)⟩
 case round =>
  clear H'
  try clear p2
  obtain ⟨x8_1, rfl, HA, HK1, ⟨m1, rfl⟩⟩ := hrel
  cases gk with
  | zero => exact absurd HA.out (by simp [tumbrelref09_has.l0])
  | succ k1 =>
   have H := HA.out
   clear HA
   simp only [tumbrelref09_has.l0] at H
   by_cases c3 : x8_1 < (l0.length : Int)
   ·rw [if_pos c3] at H
    have c3b0 : decide (x8_1 < (l0.length : Int)) = true := decide_eq_true c3
    clear c3
    by_cases c4 : 0 ≤ x8_1
    ·rw [if_pos c4] at H
     have c4b0 : decide (0 ≤ x8_1) = true := decide_eq_true c4
     clear c4
     by_cases c5 : x8_1 < (l0.length : Int)
     ·rw [if_pos c5] at H
      have c5b0 : decide (x8_1 < (l0.length : Int)) = true := decide_eq_true c5
      clear c5
      by_cases c6 : (rd l0 x8_1) = a1
      ·rw [if_pos c6] at H
       have c6b0 : ((rd l0 x8_1) == a1) = true := beq_iff_eq.mpr c6
       have c6b1 : ((rd l0 x8_1) != a1) = false := bne_eq_false_iff_eq.mpr c6
       clear c6
       obtain rfl := Option.some.inj H
       have p330 : 0 ≤ (x8_1 : Int) := of_decide_eq_true kz11_3
       have q330 : x8_1 < (l0.length : Int) := of_decide_eq_true kz11_3
       obtain ⟨ad330, e330, hx330_0⟩ := Kd.at_int HR0.out x8_1 p330 q330
       cases e330
       replace p330 := eq_true p330
       replace q330 := eq_true q330
       go_wp2
       go_ret
       exact ⟨by first | rfl | (simp; done) | (simp [*]; done), by repeat (first | exact Drawn0.refl _ | apply Drawn0.step)⟩
      ·rw [if_neg c6] at H
       have c6b0 : ((rd l0 x8_1) == a1) = false := beq_eq_false_iff_ne.mpr c6
       have c6b1 : ((rd l0 x8_1) != a1) = true := bne_iff_ne.mpr c6
       have H' := Aside0.mk H
       clear H
       have p330 : 0 ≤ (x8_1 : Int) := of_decide_eq_true kz11_3
       have q330 : x8_1 < (l0.length : Int) := of_decide_eq_true kz11_3
       obtain ⟨ad330, e330, hx330_0⟩ := Kd.at_int HR0.out x8_1 p330 q330
       cases e330
       replace p330 := eq_true p330
       replace q330 := eq_true q330
       go_wp2
       go_roundg k1
       case measure => have := HK1.out; omega
       case rel => exact ⟨(wrap64 (x8_1 + 1)), kz11_6, H', ⟨by have := HK1.out; omega⟩, by repeat (first | exact Drawn0.refl _ | apply Drawn0.step)⟩
     ·rw [if_neg c5] at H
      exact absurd H (by simp)
    ·rw [if_neg c4] at H
     exact absurd H (by simp)
   ·rw [if_neg c3] at H
    have c3b0 : decide (x8_1 < (l0.length : Int)) = false := decide_eq_false c3
    clear c3
    obtain rfl := Option.some.inj H
    go_wp2
    go_ret
    exact ⟨by first | rfl | (simp; done) | (simp [*]; done), by repeat (first | exact Drawn0.refl _ | apply Drawn0.step)⟩

end Go.Proofs.Ytjghlomkimoeoaa.PConfigMoves
