-- Written by fprint.py (wip), by way of the printer's functions; where they are turned, by texts of mine.
import Derived.Test.YtdglbiafpofeeaaPOutboxDecodesx0
import Derived.Test.YtdglbiafpofeeaaPOutboxDecodesx10
namespace Go.Proofs.Ytdglbiafpofeeaa.POutboxDecodes
open Go.RowKit Go.Proofs.YtdglbiafpofeeaaW.PrintWords Go.Proofs.YtdglbiafpofeeaaW.PrintLast Go.Proofs.YtdglbiafpofeeaaW.PrintMore
attribute [local go_sem] max2_int min2_int max_two min_two max_three min_three max_four min_four   -- for this text's walks alone
set_option linter.unusedVariables false
set_option linter.unusedSimpArgs false
theorem kz11_1 {p_ : Prop} (h_ : p_ := by repeat (first | (with_reducible first | exact HB.out | apply below_alloc | apply pw_below_drewN | apply below_drew1) | exact HB.out)) : p_ := h_
theorem kz11_2 {p_ : Prop} (h_ : p_ := by (with_reducible repeat (first | apply Kd.R_alloc | apply Kd.R_drewN | apply Kd.R_drew)); exact HO389.out) : p_ := h_
theorem kz11_3 {p_ : Prop} (h_ : p_ := by first | (with_reducible assumption) | assumption) : p_ := h_
theorem kz11_4 {p_ : Prop} (h_ : p_ := by (try simp only [List.map_toArray, List.map_cons, List.map_nil]); first | done | rfl | (simp only [List.length_drop, List.length_take]; rfl)) : p_ := h_
theorem kz11_5 {p_ : Prop} (h_ : p_ := by simp only [putAll, Act.put, sA_, sB_, sC_]) : p_ := h_

/-! ### tumbrelref01_TakeNumber: function 80 -/
mutual
def tumbrelref01_TakeNumber.j0 : Nat → List Int → Int → Int → Option (Int × Int × Int)
 | 0, _, _, _ => none
 | k + 1, x0, x5, x6 => tumbrelref01_TakeNumber.l0 k x0 x5 x6 1
def tumbrelref01_TakeNumber.l0 : Nat → List Int → Int → Int → Int → Option (Int × Int × Int)
 | 0, _, _, _, _ => none
 | k + 1, x0, x5, x6, x7 => if x7 < x5 then (if 0 ≤ (wrap64 (1 + x7)) then (if (wrap64 (1 + x7)) < (x0.length : Int) then (tumbrelref01_TakeNumber.l0 k x0 x5 (Go.bits .or .i64 (wrap64 (x6 * 256)) (wrap64 (rd x0 (wrap64 (1 + x7))))) (wrap64 (x7 + 1))) else (none)) else (none)) else ((tumbrelref01_Number.f k x6).bind fun t387 => (if 0 ≤ (wrap64 (1 + x5)) then (if (wrap64 (1 + x5)) ≤ (x0.length : Int) then (if (strOfNums t387).toList = (strOfNums (x0.take ((wrap64 (1 + x5)) : Int).toNat)).toList then (some (x6, wrap64 (1 + x5), 0)) else (some (0, 0, 2))) else (none)) else (none)))
end
def tumbrelref01_TakeNumber.f (k : Nat) (l0 : List Int) : Option (Int × Int × Int) := if (l0.length : Int) = 0 then (some (0, 0, 5)) else (if 0 < (l0.length : Int) then (if (wrap64 (rd l0 0)) > 8 then (some (0, 0, 2)) else (if (l0.length : Int) < (wrap64 (1 + (wrap64 (rd l0 0)))) then (some (0, 0, 5)) else (if (wrap64 (rd l0 0)) > 0 then (if 1 < (l0.length : Int) then (tumbrelref01_TakeNumber.j0 k l0 (wrap64 (rd l0 0)) (wrap64 (IntKind.i8.wrap (rd l0 1)))) else (none)) else (tumbrelref01_TakeNumber.j0 k l0 (wrap64 (rd l0 0)) 0)))) else (none))
theorem tumbrelref01_TakeNumber.mono_l : ∀ k, (∀ y0 y1 y2, LeO (tumbrelref01_TakeNumber.j0 k y0 y1 y2) (tumbrelref01_TakeNumber.j0 (k + 1) y0 y1 y2)) ∧ (∀ y0 y1 y2 y3, LeO (tumbrelref01_TakeNumber.l0 k y0 y1 y2 y3) (tumbrelref01_TakeNumber.l0 (k + 1) y0 y1 y2 y3))
 | 0 => ⟨fun _ _ _ r h => by simp [tumbrelref01_TakeNumber.j0] at h, fun _ _ _ _ r h => by simp [tumbrelref01_TakeNumber.l0] at h⟩
 | k + 1 => by
  obtain ⟨ih0, ih1⟩ := tumbrelref01_TakeNumber.mono_l k
  refine ⟨?_, ?_⟩
  ·intro y0 y1 y2
   unfold tumbrelref01_TakeNumber.j0
   repeat' first
   | (with_reducible exact ih0 _ _ _)
   | (with_reducible exact ih1 _ _ _ _)
   | (with_reducible exact tumbrelref01_Number.mono _ _)
   | (with_reducible exact LeO.refl _)
   | (with_reducible exact LeO.none _)
   | (with_reducible refine LeO.ite ?_ ?_)
   | (with_reducible refine LeO.bind ?_ (fun _ => ?_))
   | exact ih0 _ _ _
   | exact ih1 _ _ _ _
   | exact tumbrelref01_Number.mono _ _
   | exact LeO.none _
   | refine LeO.ite ?_ ?_
   | refine LeO.bind ?_ (fun _ => ?_)
  ·intro y0 y1 y2 y3
   unfold tumbrelref01_TakeNumber.l0
   repeat' first
   | (with_reducible exact ih0 _ _ _)
   | (with_reducible exact ih1 _ _ _ _)
   | (with_reducible exact tumbrelref01_Number.mono _ _)
   | (with_reducible exact LeO.refl _)
   | (with_reducible exact LeO.none _)
   | (with_reducible refine LeO.ite ?_ ?_)
   | (with_reducible refine LeO.bind ?_ (fun _ => ?_))
   | exact ih0 _ _ _
   | exact ih1 _ _ _ _
   | exact tumbrelref01_Number.mono _ _
   | exact LeO.none _
   | refine LeO.ite ?_ ?_
   | refine LeO.bind ?_ (fun _ => ?_)
theorem tumbrelref01_TakeNumber.mono : ∀ a0 k, LeO (tumbrelref01_TakeNumber.f k a0) (tumbrelref01_TakeNumber.f (k + 1) a0) := by
 intro a0 k
 obtain ⟨ih0, ih1⟩ := tumbrelref01_TakeNumber.mono_l k
 unfold tumbrelref01_TakeNumber.f
 repeat' first
   | (with_reducible exact ih0 _ _ _)
   | (with_reducible exact ih1 _ _ _ _)
   | (with_reducible exact tumbrelref01_Number.mono _ _)
   | (with_reducible exact LeO.refl _)
   | (with_reducible exact LeO.none _)
   | (with_reducible refine LeO.ite ?_ ?_)
   | (with_reducible refine LeO.bind ?_ (fun _ => ?_))
   | exact ih0 _ _ _
   | exact ih1 _ _ _ _
   | exact tumbrelref01_Number.mono _ _
   | exact LeO.none _
   | refine LeO.ite ?_ ?_
   | refine LeO.bind ?_ (fun _ => ?_)
def tumbrelref01_TakeNumber.T15 : Bool × List (List Nat × List Nat) := (true, [([], []), ([0], [0]), ([1], [1]), ([], []), ([], []), ([4], [4]), ([3, 5], [3, 5]), ([6], [6]), ([2, 7], [2, 7])])
def tumbrelref01_TakeNumber.B15 : List Nat := [0, 1, 3, 0, 0, 16, 56, 120, 255]
theorem tumbrelref01_TakeNumber.tab15 : rtab .any (opsOf Try.f80 15) = tumbrelref01_TakeNumber.T15 := by kernel_rfl
theorem tumbrelref01_TakeNumber.bits15 : waitsOk tumbrelref01_TakeNumber.T15.2 tumbrelref01_TakeNumber.B15 = true := by kernel_rfl
set_option maxHeartbeats 8000000 in
set_option maxRecDepth 100000 in
theorem tumbrelref01_TakeNumber.calls (k : Nat) (A0 : Option Addr) (c0 : Nat) (l0 : List Int) (r1 : Int) (r2 : Int) (r3 : Int) (w : World) (hr0 : Kd.C (Kd.int .u8) w A0 l0.length l0) (hc0 : l0.length ≤ c0) (h : tumbrelref01_TakeNumber.f k l0 = some (r1, r2, r3)) :
  Calls Try.prog 80 #[.slice A0 l0.length c0] w fun e w' => e = .returned (.tuple #[.int .i64 r1, .int .i64 r2, .int .i64 r3]) ∧ Below w.heap.size w w' := by
 have HR0 := Aside0.mk hr0
 have HC0 := Aside0.mk hc0
 clear hr0 hc0
 have HB := Aside0.mk (Below.refl w.heap.size w)
 have H : (if (l0.length : Int) = 0 then (some (0, 0, 5)) else (if 0 < (l0.length : Int) then (if (wrap64 (rd l0 0)) > 8 then (some (0, 0, 2)) else (if (l0.length : Int) < (wrap64 (1 + (wrap64 (rd l0 0)))) then (some (0, 0, 5)) else (if (wrap64 (rd l0 0)) > 0 then (if 1 < (l0.length : Int) then (tumbrelref01_TakeNumber.j0 k l0 (wrap64 (rd l0 0)) (wrap64 (IntKind.i8.wrap (rd l0 1)))) else (none)) else (tumbrelref01_TakeNumber.j0 k l0 (wrap64 (rd l0 0)) 0)))) else (none))) = some (r1, r2, r3) := h
 clear h
 by_cases c2 : (l0.length : Int) = 0
 ·rw [if_pos c2] at H
  have c2b0 : ((l0.length : Int) == 0) = true := beq_iff_eq.mpr c2
  have c2b1 : ((l0.length : Int) != 0) = false := bne_eq_false_iff_eq.mpr c2
  clear c2
  simp only [Option.some.injEq, Prod.mk.injEq] at H
  obtain ⟨rfl, rfl, rfl⟩ := H
  go_enter Try.func80, Try.ntmps80
  go_wp2
  go_ret3
  exact ⟨by first | rfl | (simp [errW_none, errW_some] <;> rfl) | (simp [*, errW_none, errW_some] <;> rfl), by repeat (first | (with_reducible first | exact HB.out | apply below_alloc | apply pw_below_drewN | apply below_drew1) | exact HB.out)⟩
 ·rw [if_neg c2] at H
  have c2b0 : ((l0.length : Int) == 0) = false := beq_eq_false_iff_ne.mpr c2
  have c2b1 : ((l0.length : Int) != 0) = true := bne_iff_ne.mpr c2
  have c2b2 : ¬ (l0 = []) := fun h_ => c2 (by rw [h_]; rfl)
  by_cases c3 : 0 < (l0.length : Int)
  ·rw [if_pos c3] at H
   have c3b0 : decide (0 < (l0.length : Int)) = true := decide_eq_true c3
   have c3b1 : decide (0 < l0.length) = true := decide_eq_true (by omega)
   clear c3
   by_cases c4 : (wrap64 (rd l0 0)) > 8
   ·rw [if_pos c4] at H
    have c4b0 : decide (8 < (wrap64 (rd l0 0))) = true := decide_eq_true c4
    clear c4
    simp only [Option.some.injEq, Prod.mk.injEq] at H
    obtain ⟨rfl, rfl, rfl⟩ := H
    have p384 : 0 ≤ (0 : Int) := (by omega)
    have q384 : 0 < (l0.length : Int) := of_decide_eq_true kz11_3
    obtain ⟨ad384, e384, hx384_0⟩ := Kd.at_int HR0.out 0 p384 q384
    cases e384
    have qi384 : (0 < l0.length) = True := eq_true (by omega)
    (try rw [show ((0 : Int)).toNat = 0 from rfl] at hx384_0)
    (try rw [Addr.add_zero'] at hx384_0)
    replace p384 := eq_true p384
    replace q384 := eq_true q384
    go_enter Try.func80, Try.ntmps80
    go_wp2
    go_ret3
    exact ⟨by first | rfl | (simp [errW_none, errW_some] <;> rfl) | (simp [*, errW_none, errW_some] <;> rfl), by repeat (first | (with_reducible first | exact HB.out | apply below_alloc | apply pw_below_drewN | apply below_drew1) | exact HB.out)⟩
   ·rw [if_neg c4] at H
    have c4b0 : decide (8 < (wrap64 (rd l0 0))) = false := decide_eq_false c4
    clear c4
    by_cases c5 : (l0.length : Int) < (wrap64 (1 + (wrap64 (rd l0 0))))
    ·rw [if_pos c5] at H
     have c5b0 : decide ((l0.length : Int) < (wrap64 (1 + (wrap64 (rd l0 0))))) = true := decide_eq_true c5
     clear c5
     simp only [Option.some.injEq, Prod.mk.injEq] at H
     obtain ⟨rfl, rfl, rfl⟩ := H
     have p384 : 0 ≤ (0 : Int) := (by omega)
     have q384 : 0 < (l0.length : Int) := of_decide_eq_true kz11_3
     obtain ⟨ad384, e384, hx384_0⟩ := Kd.at_int HR0.out 0 p384 q384
     cases e384
     have qi384 : (0 < l0.length) = True := eq_true (by omega)
     (try rw [show ((0 : Int)).toNat = 0 from rfl] at hx384_0)
     (try rw [Addr.add_zero'] at hx384_0)
     replace p384 := eq_true p384
     replace q384 := eq_true q384
     go_enter Try.func80, Try.ntmps80
     go_wp2
     go_ret3
     exact ⟨by first | rfl | (simp [errW_none, errW_some] <;> rfl) | (simp [*, errW_none, errW_some] <;> rfl), by repeat (first | (with_reducible first | exact HB.out | apply below_alloc | apply pw_below_drewN | apply below_drew1) | exact HB.out)⟩
    ·rw [if_neg c5] at H
     have c5b0 : decide ((l0.length : Int) < (wrap64 (1 + (wrap64 (rd l0 0))))) = false := decide_eq_false c5
     clear c5
     have HC6 := Aside0.mk H
     clear H
     have p384 : 0 ≤ (0 : Int) := (by omega)
     have q384 : 0 < (l0.length : Int) := of_decide_eq_true kz11_3
     obtain ⟨ad384, e384, hx384_0⟩ := Kd.at_int HR0.out 0 p384 q384
     cases e384
     have qi384 : (0 < l0.length) = True := eq_true (by omega)
     (try rw [show ((0 : Int)).toNat = 0 from rfl] at hx384_0)
     (try rw [Addr.add_zero'] at hx384_0)
     replace p384 := eq_true p384
     replace q384 := eq_true q384
     go_enter Try.func80, Try.ntmps80
     go_upto_if 23 with (fail)
     go_cut [6] (fun v6 wc => ∃ (kq : Nat) (x6_5 : Int), v6 = .int .i64 x6_5 ∧ Aside0 (tumbrelref01_TakeNumber.j0 kq l0 (wrap64 (rd l0 0)) x6_5 = some (r1, r2, r3)) ∧ Aside0 (kq ≤ k) ∧ Aside0 (Below w.heap.size w wc))
     case first =>
      have H := HC6.out
      clear HC6
      by_cases c7 : (wrap64 (rd l0 0)) > 0
      ·rw [if_pos c7] at H
       have c7b0 : decide (0 < (wrap64 (rd l0 0))) = true := decide_eq_true c7
       clear c7
       (first | rw [c7b0] | (simp only [i64_w, i32_w]; rw [c7b0]) | skip)
       by_cases c8 : 1 < (l0.length : Int)
       ·rw [if_pos c8] at H
        have c8b0 : decide (1 < (l0.length : Int)) = true := decide_eq_true c8
        have c8b1 : decide (1 < l0.length) = true := decide_eq_true (by omega)
        clear c8
        have H' := Aside0.mk H
        clear H
        have p385 : 0 ≤ (1 : Int) := (by omega)
        have q385 : 1 < (l0.length : Int) := of_decide_eq_true kz11_3
        obtain ⟨ad385, e385, hx385_0⟩ := Kd.at_int HR0.out 1 p385 q385
        obtain rfl : ad384 = ad385 := (by injection e385)
        (try simp only [show (1 : Int).toNat = 1 from rfl, Nat.reduceMul, Nat.reduceEqDiff, Go.Addr.add, ↓reduceIte] at hx385_0)
        have qi385 : (1 < l0.length) = True := eq_true (by omega)
        (try rw [show ((1 : Int)).toNat = 1 from rfl] at hx385_0)
        replace hx385_0 := (HB.out.cell (World.block_lt_of_cell? w _ hx385_0)).trans hx385_0
        replace p385 := eq_true p385
        replace q385 := eq_true q385
        go_wp2
        go_meet
        case rel => exact ⟨_, (wrap64 (IntKind.i8.wrap (rd l0 1))), (by first | rfl | (simp; done) | (simp [*]; done)), H', ⟨by first | omega | exact Nat.le_refl _⟩, ⟨by repeat (first | (with_reducible first | exact HB.out | apply below_alloc | apply pw_below_drewN | apply below_drew1) | exact HB.out)⟩⟩
       ·rw [if_neg c8] at H
        exact absurd H (by simp)
      ·rw [if_neg c7] at H
       have c7b0 : decide (0 < (wrap64 (rd l0 0))) = false := decide_eq_false c7
       clear c7
       (first | rw [c7b0] | (simp only [i64_w, i32_w]; rw [c7b0]) | skip)
       have H' := Aside0.mk H
       clear H
       go_wp2
       go_meet
       case rel => exact ⟨_, (0), (by first | rfl | (simp; done) | (simp [*]; done)), H', ⟨by first | omega | exact Nat.le_refl _⟩, ⟨by repeat (first | (with_reducible first | exact HB.out | apply below_alloc | apply pw_below_drewN | apply below_drew1) | exact HB.out)⟩⟩
     case rest =>
      clear HC6
      try clear c2
      try clear c2b0
      try clear c2b1
      try clear c2b2
      try clear p2
      try clear c3
      try clear c3b0
      try clear c3b1
      try clear p3
      try clear q3
      try clear hx3
      try clear qi3
      try clear c4
      try clear c4b0
      try clear c5
      try clear c5b0
      try clear p6
      try clear c7
      try clear c7b0
      try clear c8
      try clear c8b0
      try clear c8b1
      try clear hx384_0
      try clear hx385_0
      try clear p384
      try clear p385
      try clear q384
      try clear q385
      obtain ⟨kq, x6_5, rfl, HA, HJ5, HB⟩ := hcut
      cases kq with
      | zero => exact absurd HA.out (by simp [tumbrelref01_TakeNumber.j0])
      | succ kj5 =>
       have H := HA.out
       clear HA
       simp only [tumbrelref01_TakeNumber.j0] at H
       have H' := Aside0.mk H
       clear H
       go_wp2
       go_loopg [6, 7] kj5 (fun kq v6 v7 w' => ∃ (x6_2 : Int) (x7_2 : Int), v6 = .int .i64 x6_2 ∧ v7 = .int .i64 x7_2 ∧ Aside0 (tumbrelref01_TakeNumber.l0 kq l0 (wrap64 (rd l0 0)) x6_2 x7_2 = some (r1, r2, r3)) ∧ Aside0 (kq ≤ kj5) ∧ Aside0 (Below w.heap.size w w'))
       case atStart => exact ⟨(x6_5), (1), (by first | rfl | (simp; done) | (simp [*]; done)), (by first | rfl | (simp; done) | (simp [*]; done)), H', ⟨Nat.le_refl _⟩, ⟨by repeat (first | (with_reducible first | exact HB.out | apply below_alloc | apply pw_below_drewN | apply below_drew1) | exact HB.out)⟩⟩
       case round =>
        clear H'
        try clear c2
        try clear c2b0
        try clear c2b1
        try clear c2b2
        try clear p2
        try clear c3
        try clear c3b0
        try clear c3b1
        try clear p3
        try clear q3
        try clear hx3
        try clear qi3
        try clear c4
        try clear c4b0
        try clear c5
        try clear c5b0
        try clear p6
        try clear c7
        try clear c7b0
        try clear c8
        try clear c8b0
        try clear c8b1
        try clear hx384_0
        try clear hx385_0
        try clear p2
        try clear p3
        try clear p384
        try clear p385
        try clear p6
        try clear q3
        try clear q384
        try clear q385
        obtain ⟨x6_2, x7_2, rfl, rfl, HA, HK2, HB⟩ := hrel
        cases gk with
        | zero => exact absurd HA.out (by simp [tumbrelref01_TakeNumber.l0])
        | succ k2 =>
         have H := HA.out
         clear HA
         simp only [tumbrelref01_TakeNumber.l0] at H
         by_cases c9 : x7_2 < (wrap64 (rd l0 0))
         ·rw [if_pos c9] at H
          have c9b0 : decide (x7_2 < (wrap64 (rd l0 0))) = true := decide_eq_true c9
          clear c9
          obtain ⟨ji10, hji10⟩ : ∃ j_ : Int, (wrap64 (1 + x7_2)) = j_ := ⟨_, rfl⟩
          replace H : (if 0 ≤ (ji10) then (if (ji10) < (l0.length : Int) then (tumbrelref01_TakeNumber.l0 k2 l0 (wrap64 (rd l0 0)) (Go.bits .or .i64 (wrap64 (x6_2 * 256)) (wrap64 (rd l0 (ji10)))) (wrap64 (x7_2 + 1))) else (none)) else (none)) = some (r1, r2, r3) := by first | (rw [hji10] at H; exact H) | (simp only [hji10] at H ⊢; exact H)
          have hji10w : (IntKind.i64.wrap (1 + x7_2)) = ji10 := (i64_w _).trans hji10
          by_cases c11 : 0 ≤ (ji10)
          ·rw [if_pos c11] at H
           have c11b0 : decide (0 ≤ (ji10)) = true := decide_eq_true c11
           clear c11
           by_cases c12 : (ji10) < (l0.length : Int)
           ·rw [if_pos c12] at H
            have c12b0 : decide ((ji10) < (l0.length : Int)) = true := decide_eq_true c12
            clear c12
            have H' := Aside0.mk H
            clear H
            have p386 : 0 ≤ ((ji10) : Int) := of_decide_eq_true kz11_3
            have q386 : (ji10) < (l0.length : Int) := of_decide_eq_true kz11_3
            obtain ⟨ad386, e386, hx386_0⟩ := Kd.at_int HR0.out (ji10) p386 q386
            obtain rfl : ad384 = ad386 := (by injection e386)
            replace hx386_0 := (HB.out.cell (World.block_lt_of_cell? w _ hx386_0)).trans hx386_0
            replace p386 := eq_true p386
            replace q386 := eq_true q386
            go_wp2
            go_roundg k2
            case measure => have := HJ5.out; have := HK2.out; omega
            case rel => exact ⟨(Go.bits .or .i64 (wrap64 (x6_2 * 256)) (wrap64 (rd l0 (ji10)))), (wrap64 (x7_2 + 1)), (by first | rfl | (simp; done) | (simp only [← hji10] <;> (first | rfl | simp)) | (simp [*]; done)), (by first | rfl | (simp; done) | (simp [*]; done)), H', ⟨by have := HJ5.out; have := HK2.out; omega⟩, ⟨by repeat (first | (with_reducible first | exact HB.out | apply below_alloc | apply pw_below_drewN | apply below_drew1) | exact HB.out)⟩⟩
           ·rw [if_neg c12] at H
            exact absurd H (by simp)
          ·rw [if_neg c11] at H
           exact absurd H (by simp)
         ·rw [if_neg c9] at H
          have c9b0 : decide (x7_2 < (wrap64 (rd l0 0))) = false := decide_eq_false c9
          clear c9
          replace H := Option.bind_eq_some_iff.mp H
          obtain ⟨t387, A130, H⟩ := H
          replace H : (if 0 ≤ (wrap64 (1 + (wrap64 (rd l0 0)))) then (if (wrap64 (1 + (wrap64 (rd l0 0)))) ≤ (l0.length : Int) then (if (strOfNums t387).toList = (strOfNums (l0.take ((wrap64 (1 + (wrap64 (rd l0 0)))) : Int).toNat)).toList then (some (x6_2, wrap64 (1 + (wrap64 (rd l0 0))), 0)) else (some (0, 0, 2))) else (none)) else (none)) = some (r1, r2, r3) := H
          have A13 := Aside0.mk A130
          clear A130
          obtain ⟨ji14, hji14⟩ : ∃ j_ : Int, (wrap64 (1 + (wrap64 (rd l0 0)))) = j_ := ⟨_, rfl⟩
          replace H : (if 0 ≤ (ji14) then (if (ji14) ≤ (l0.length : Int) then (if (strOfNums t387).toList = (strOfNums (l0.take ((ji14) : Int).toNat)).toList then (some (x6_2, ji14, 0)) else (some (0, 0, 2))) else (none)) else (none)) = some (r1, r2, r3) := by first | (rw [hji14] at H; exact H) | (simp only [hji14] at H ⊢; exact H)
          (try rw [hji14] at c5b0)
          (try rw [hji14] at A13)
          have hji14w : (IntKind.i64.wrap (1 + (wrap64 (rd l0 0)))) = ji14 := (i64_w _).trans hji14
          by_cases c15 : 0 ≤ (ji14)
          ·rw [if_pos c15] at H
           have c15b0 := eq_true c15
           have c15b1 : decide (0 ≤ (ji14)) = true := decide_eq_true c15
           clear c15
           by_cases c16 : (ji14) ≤ (l0.length : Int)
           ·rw [if_pos c16] at H
            have c16b0 := eq_true c16
            have c16b1 : decide ((ji14) ≤ (l0.length : Int)) = true := decide_eq_true c16
            clear c16
            obtain ⟨y390, hy390⟩ : ∃ y_ : List Int, y_ = (l0.take ((ji14) : Int).toNat) := ⟨_, rfl⟩
            replace H : (if (strOfNums t387).toList = (strOfNums y390).toList then (some (x6_2, ji14, 0)) else (some (0, 0, 2))) = some (r1, r2, r3) := by first | (rw [hy390]; with_reducible exact H) | (have H2_ := (Option.bind_some _ _).symm.trans H; rw [hy390]; with_reducible exact H2_) | (have H2_ := (Option.bind_some _ _).symm.trans H; with_reducible exact H2_) | with_reducible exact H | (rw [hy390]; exact H) | exact H
            have Ny390 := Aside0.mk hy390
            clear hy390
            by_cases c17 : (strOfNums t387).toList = (strOfNums y390).toList
            ·rw [if_pos c17] at H
             have c17b0 : ((strOfNums t387).toList == (strOfNums y390).toList) = true := beq_iff_eq.mpr c17
             have c17b1 : ((strOfNums t387).toList != (strOfNums y390).toList) = false := bne_eq_false_iff_eq.mpr c17
             clear c17
             simp only [Option.some.injEq, Prod.mk.injEq] at H
             obtain ⟨rfl, rfl, rfl⟩ := H
             try go_wp2
             have n0_ := Aside0.mk (below_drew1 HB.out)
             clear HB
             have HB := n0_
             clear n0_
             have q19 : ((ji14) : Int) ≤ ((l0.length : Int) : Int) := of_decide_eq_true kz11_3
             obtain ⟨i019, hi019, _, hsz19, _⟩ := info_parts info5
             have hroom19 : l0.length ≤ c0 := HC0.out
             have hC19 : Kd.C (Kd.int .u8) _ (some ad384) l0.length l0 := HR0.out
             have hcut19 := cut_to (P := Try.prog) 50 5 .i64 Try.underlying50 hi019 (some ad384) l0.length c0 (ji14) (of_decide_eq_true kz11_3) q19 hroom19
             have hr19 := Kd.C_take (m := ((ji14) : Int).toNat) hC19 (by omega)
             have hy19 : y390.length = ((ji14) : Int).toNat := (by rw [Ny390.out, List.length_take]; omega)
             rw [← Ny390.out] at hr19
             rw [← hy19] at hcut19
             have HR393 := Aside0.mk hr19
             have HC393 := Aside0.mk (show y390.length ≤ c0 from by omega)
             clear hr19 hC19 hroom19 hi019 hsz19
             have KY19 := Aside0.mk hy19
             clear hy19
             replace q19 := eq_true q19
             refine start_ (n := 9) (S := fun w' => True) (ds := []) #[false, false, false, false, false, false, false, false, false] (by kernel_rfl) rfl rfl trivial (fun hHeld => ?_); refine with_tabW tumbrelref01_TakeNumber.tab15 tumbrelref01_TakeNumber.bits15 (fun HT_ HW_ => ?_)
             generalize wr.drew = w18 at HB HR393 hHeld ⊢
             refine pure_ (i := 0) (N := some 43) (v := ?_) (a' := ?_) #[true, false, false, false, false, false, false, false, false] rfl rfl (any_of HT_.out (by kernel_rfl)) (fun _ _ _ h => h) (Or.inl ⟨by rfl, ?_⟩) ?_ ?_
             rotate_left
             ·intro w'
              go_simp
              with_reducible rfl
             rotate_left
             ·simp only [Act.put, sA_, sB_, sC_, i64_w, i32_w]
              rfl
             refine pure_ (i := 3) (N := some 46) (v := ?_) (a' := ?_) #[true, false, false, true, false, false, false, false, false] rfl rfl (any_of HT_.out (by kernel_rfl)) (fun _ _ _ h => h) (Or.inl ⟨by rfl, ?_⟩) ?_ ?_
             rotate_left
             ·intro w'
              go_simp
              with_reducible rfl
             rotate_left
             ·simp only [Act.put, sA_, sB_, sC_, i64_w, i32_w]
              rfl
             refine pure_ (i := 4) (N := some 47) (v := ?_) (a' := ?_) #[true, false, false, true, true, false, false, false, false] rfl rfl (any_of HT_.out (by kernel_rfl)) (fun _ _ _ h => h) (Or.inl ⟨by rfl, ?_⟩) ?_ ?_
             rotate_left
             ·intro w'
              go_simp
              with_reducible rfl
             rotate_left
             ·simp only [Act.put, sA_, sB_, sC_, i64_w, i32_w]
              rfl
             refine pure_ (i := 5) (N := some 48) (v := ?_) (a' := ?_) #[true, false, false, true, true, true, false, false, false] rfl rfl (any_of HT_.out (by kernel_rfl)) (fun _ _ _ h => h) (Or.inl ⟨by rfl, ?_⟩) ?_ ?_
             rotate_left
             ·intro w'
              go_simp
              with_reducible rfl
             rotate_left
             ·simp only [Act.put, sA_, sB_, sC_, i64_w, i32_w]
              rfl
             refine pure_ (i := 6) (N := some 49) (v := ?_) (a' := ?_) #[true, false, false, true, true, true, true, false, false] rfl rfl (any_of HT_.out (by kernel_rfl)) (fun _ _ _ h => h) (Or.inl ⟨by rfl, ?_⟩) ?_ ?_
             rotate_left
             ·intro w'
              go_simp
              with_reducible rfl
             rotate_left
             ·simp only [Act.put, sA_, sB_, sC_, i64_w, i32_w]
              rfl
             refine join_ (σ := Value) 1 #[true, true, true, true, true, true, true, true, false] (fun s_ => [(44, s_), (45, .string (strOfNums t387)), (50, .string (strOfNums y390))]) (fun s_ w' => (Kd.R (Kd.int .u8) 5 w' w.heap.size (fun _ => True) s_ t387) ∧ (Below w.heap.size w w')) ?_ ?_
             rotate_left
             ·intro hCont
              refine two_ (i := 1) (j := 7) (Ni := some 44) (Nj := some 50) #[true, true, false, true, true, true, true, false, false] #[true, false, false, true, true, true, true, true, false] rfl rfl rfl rfl (two_of HT_.out (by kernel_rfl)) (by decide) (by decide) (fun K hK => ?_) (fun K hK => ?_)
              ·skip
               refine goes_ Try.func71 (by kernel_rfl) rfl #[.int .i64 x6_2] (by rfl) rfl rfl kz11_4 ?_
               with_reducible refine (tumbrelref01_Number.calls k2 x6_2 t387 _ A13.out).mono ?_
               rintro e w20 ⟨v388, rfl, ho0, hb⟩
               refine ⟨_, rfl, ?_⟩
               have n0_ := Aside0.mk (Kd.R_lower ho0 (below_size kz11_1))
               have n1_ := Aside0.mk (below_step kz11_1 hb)
               clear HB
               have HO389 := n0_
               have HB := n1_
               clear n0_ n1_
               (try clear hb)
               (try clear hb2)
               (try clear hk)
               (try clear hi)
               (try clear ho0)
               refine hK.out _ _ trivial (fun hHeld => ?_)
               clear hK K
               refine norm_ (a' := ?_) ?_ ?_
               rotate_left
               ·show Act.put _ (some 44) _ = _
                simp only [Act.put, sA_, sB_, sC_, i64_w, i32_w]
                rfl
               refine two_ (i := 2) (j := 7) (Ni := some 45) (Nj := some 50) #[true, true, true, true, true, true, true, false, false] #[true, true, false, true, true, true, true, true, false] rfl rfl rfl rfl (two_of HT_.out (by kernel_rfl)) (by decide) (by decide) (fun K hK => ?_) (fun K hK => ?_)
               ·skip
                have hcv21 := own_string (P := Try.prog) Try.underlying50 Try.underlying5 Try.underlying9 (Kd.own_of_R HO389.out)
                refine value_ (w1 := ?_) (v := ?_) (by rfl) rfl ?_ ?_
                rotate_left 2
                ·go_simp
                 constructor
                 ·rfl
                 ·rfl
                clear hcv21
                refine hK.out _ _ trivial (fun hHeld => ?_)
                clear hK K
                refine norm_ (a' := ?_) ?_ ?_
                rotate_left
                ·show Act.put _ (some 45) _ = _
                 simp only [Act.put, sA_, sB_, sC_, i64_w, i32_w]
                 rfl
                refine one_ (i := 7) (N := some 50) #[true, true, true, true, true, true, true, true, false] rfl rfl (one_of HT_.out (by kernel_rfl)) (by decide) (fun K hK => ?_)
                have hcv22 := Kd.C_string (P := Try.prog) (A := (some ad384)) (c := c0) Try.underlying50 Try.underlying5 Try.underlying9 (Kd.C_below HR393.out HB.out); have hcv22d := fun m_ => Kd.C_string (P := Try.prog) (A := (some ad384)) (c := c0) Try.underlying50 Try.underlying5 Try.underlying9 (Kd.C_drewN ((Kd.C_below HR393.out HB.out)) m_)
                refine value_ (w1 := ?_) (v := ?_) (by rfl) rfl ?_ ?_
                rotate_left 2
                ·go_simp
                 constructor
                 ·rfl
                 ·rfl
                clear hcv22 hcv22d
                refine hK.out _ _ trivial (fun hHeld => ?_)
                clear hK K
                refine norm_ (a' := ?_) ?_ ?_
                rotate_left
                ·show Act.put _ (some 50) _ = _
                 simp only [Act.put, sA_, sB_, sC_, i64_w, i32_w]
                 rfl
                exact norm_ kz11_5 (hCont (v388) _ ⟨kz11_2, kz11_1⟩)
               ·skip
                have hcv21 := Kd.C_string (P := Try.prog) (A := (some ad384)) (c := c0) Try.underlying50 Try.underlying5 Try.underlying9 (Kd.C_below HR393.out HB.out); have hcv21d := fun m_ => Kd.C_string (P := Try.prog) (A := (some ad384)) (c := c0) Try.underlying50 Try.underlying5 Try.underlying9 (Kd.C_drewN ((Kd.C_below HR393.out HB.out)) m_)
                refine value_ (w1 := ?_) (v := ?_) (by rfl) rfl ?_ ?_
                rotate_left 2
                ·go_simp
                 constructor
                 ·rfl
                 ·rfl
                clear hcv21 hcv21d
                refine hK.out _ _ trivial (fun hHeld => ?_)
                clear hK K
                refine norm_ (a' := ?_) ?_ ?_
                rotate_left
                ·show Act.put _ (some 50) _ = _
                 simp only [Act.put, sA_, sB_, sC_, i64_w, i32_w]
                 rfl
                refine one_ (i := 2) (N := some 45) #[true, true, true, true, true, true, true, true, false] rfl rfl (one_of HT_.out (by kernel_rfl)) (by decide) (fun K hK => ?_)
                have hcv22 := own_string (P := Try.prog) Try.underlying50 Try.underlying5 Try.underlying9 (Kd.own_of_R HO389.out)
                refine value_ (w1 := ?_) (v := ?_) (by rfl) rfl ?_ ?_
                rotate_left 2
                ·go_simp
                 constructor
                 ·rfl
                 ·rfl
                clear hcv22
                refine hK.out _ _ trivial (fun hHeld => ?_)
                clear hK K
                refine norm_ (a' := ?_) ?_ ?_
                rotate_left
                ·show Act.put _ (some 45) _ = _
                 simp only [Act.put, sA_, sB_, sC_, i64_w, i32_w]
                 rfl
                exact norm_ kz11_5 (hCont (v388) _ ⟨kz11_2, kz11_1⟩)
              ·skip
               have hcv20 := Kd.C_string (P := Try.prog) (A := (some ad384)) (c := c0) Try.underlying50 Try.underlying5 Try.underlying9 (Kd.C_below HR393.out HB.out); have hcv20d := fun m_ => Kd.C_string (P := Try.prog) (A := (some ad384)) (c := c0) Try.underlying50 Try.underlying5 Try.underlying9 (Kd.C_drewN ((Kd.C_below HR393.out HB.out)) m_)
               refine value_ (w1 := ?_) (v := ?_) (by rfl) rfl ?_ ?_
               rotate_left 2
               ·go_simp
                constructor
                ·rfl
                ·rfl
               clear hcv20 hcv20d
               refine hK.out _ _ trivial (fun hHeld => ?_)
               clear hK K
               refine norm_ (a' := ?_) ?_ ?_
               rotate_left
               ·show Act.put _ (some 50) _ = _
                simp only [Act.put, sA_, sB_, sC_, i64_w, i32_w]
                rfl
               refine one_ (i := 1) (N := some 44) #[true, true, false, true, true, true, true, true, false] rfl rfl (one_of HT_.out (by kernel_rfl)) (by decide) (fun K hK => ?_)
               refine goes_ Try.func71 (by kernel_rfl) rfl #[.int .i64 x6_2] (by rfl) rfl rfl kz11_4 ?_
               with_reducible refine (tumbrelref01_Number.calls k2 x6_2 t387 _ A13.out).mono ?_
               rintro e w21 ⟨v388, rfl, ho0, hb⟩
               refine ⟨_, rfl, ?_⟩
               have n0_ := Aside0.mk (Kd.R_lower ho0 (below_size kz11_1))
               have n1_ := Aside0.mk (below_step kz11_1 hb)
               clear HB
               have HO389 := n0_
               have HB := n1_
               clear n0_ n1_
               (try clear hb)
               (try clear hb2)
               (try clear hk)
               (try clear hi)
               (try clear ho0)
               refine hK.out _ _ trivial (fun hHeld => ?_)
               clear hK K
               refine norm_ (a' := ?_) ?_ ?_
               rotate_left
               ·show Act.put _ (some 44) _ = _
                simp only [Act.put, sA_, sB_, sC_, i64_w, i32_w]
                rfl
               refine one_ (i := 2) (N := some 45) #[true, true, true, true, true, true, true, true, false] rfl rfl (one_of HT_.out (by kernel_rfl)) (by decide) (fun K hK => ?_)
               have hcv22 := own_string (P := Try.prog) Try.underlying50 Try.underlying5 Try.underlying9 (Kd.own_of_R HO389.out)
               refine value_ (w1 := ?_) (v := ?_) (by rfl) rfl ?_ ?_
               rotate_left 2
               ·go_simp
                constructor
                ·rfl
                ·rfl
               clear hcv22
               refine hK.out _ _ trivial (fun hHeld => ?_)
               clear hK K
               refine norm_ (a' := ?_) ?_ ?_
               rotate_left
               ·show Act.put _ (some 45) _ = _
                simp only [Act.put, sA_, sB_, sC_, i64_w, i32_w]
                rfl
               exact norm_ kz11_5 (hCont (v388) _ ⟨kz11_2, kz11_1⟩)
             rintro v388 w23 ⟨h0_, h1_⟩
             have n0_ : Aside0 (Kd.R (Kd.int .u8) 5 w23 w.heap.size (fun _ => True) v388 t387) := ⟨h0_⟩
             have n1_ : Aside0 (Below w.heap.size w w23) := ⟨h1_⟩
             clear HB
             clear h0_ h1_
             have HO389 := n0_
             have HB := n1_
             clear n0_ n1_
             have hHeld := trivial
             refine norm_ (a' := ?_) ?_ ?_
             rotate_left
             ·simp only [putAll, Act.put, sA_, sB_, sC_]
              rfl
             refine pure_ (i := 8) (N := some 51) (v := ?_) (a' := ?_) #[true, true, true, true, true, true, true, true, true] rfl rfl (any_of HT_.out (by kernel_rfl)) (fun _ _ _ h => h) (Or.inl ⟨by rfl, ?_⟩) ?_ ?_
             rotate_left
             ·intro w'
              go_simp
              with_reducible rfl
             rotate_left
             ·simp only [Act.put, sA_, sB_, sC_, i64_w, i32_w]
              rfl
             refine done_ (done_of HT_.out (by kernel_rfl)) ?_
             try go_wp2
             go_ret3
             exact ⟨by first | rfl | (simp [errW_none, errW_some] <;> rfl) | (simp only [← hji14]; first | rfl | (simp [errW_none, errW_some] <;> rfl)) | (simp [*, errW_none, errW_some] <;> rfl), by repeat (first | (with_reducible first | exact HB.out | apply below_alloc | apply pw_below_drewN | apply below_drew1) | exact HB.out)⟩
            ·rw [if_neg c17] at H
             have c17b0 : ((strOfNums t387).toList == (strOfNums y390).toList) = false := beq_eq_false_iff_ne.mpr c17
             have c17b1 : ((strOfNums t387).toList != (strOfNums y390).toList) = true := bne_iff_ne.mpr c17
             simp only [Option.some.injEq, Prod.mk.injEq] at H
             obtain ⟨rfl, rfl, rfl⟩ := H
             try go_wp2
             have n0_ := Aside0.mk (below_drew1 HB.out)
             clear HB
             have HB := n0_
             clear n0_
             have q25 : ((ji14) : Int) ≤ ((l0.length : Int) : Int) := of_decide_eq_true kz11_3
             obtain ⟨i025, hi025, _, hsz25, _⟩ := info_parts info5
             have hroom25 : l0.length ≤ c0 := HC0.out
             have hC25 : Kd.C (Kd.int .u8) _ (some ad384) l0.length l0 := HR0.out
             have hcut25 := cut_to (P := Try.prog) 50 5 .i64 Try.underlying50 hi025 (some ad384) l0.length c0 (ji14) (of_decide_eq_true kz11_3) q25 hroom25
             have hr25 := Kd.C_take (m := ((ji14) : Int).toNat) hC25 (by omega)
             have hy25 : y390.length = ((ji14) : Int).toNat := (by rw [Ny390.out, List.length_take]; omega)
             rw [← Ny390.out] at hr25
             rw [← hy25] at hcut25
             have HR393 := Aside0.mk hr25
             have HC393 := Aside0.mk (show y390.length ≤ c0 from by omega)
             clear hr25 hC25 hroom25 hi025 hsz25
             have KY25 := Aside0.mk hy25
             clear hy25
             replace q25 := eq_true q25
             refine start_ (n := 9) (S := fun w' => True) (ds := []) #[false, false, false, false, false, false, false, false, false] (by kernel_rfl) rfl rfl trivial (fun hHeld => ?_); refine with_tabW tumbrelref01_TakeNumber.tab15 tumbrelref01_TakeNumber.bits15 (fun HT_ HW_ => ?_)
             generalize wr.drew = w24 at HB HR393 hHeld ⊢
             refine pure_ (i := 0) (N := some 43) (v := ?_) (a' := ?_) #[true, false, false, false, false, false, false, false, false] rfl rfl (any_of HT_.out (by kernel_rfl)) (fun _ _ _ h => h) (Or.inl ⟨by rfl, ?_⟩) ?_ ?_
             rotate_left
             ·intro w'
              go_simp
              with_reducible rfl
             rotate_left
             ·simp only [Act.put, sA_, sB_, sC_, i64_w, i32_w]
              rfl
             refine pure_ (i := 3) (N := some 46) (v := ?_) (a' := ?_) #[true, false, false, true, false, false, false, false, false] rfl rfl (any_of HT_.out (by kernel_rfl)) (fun _ _ _ h => h) (Or.inl ⟨by rfl, ?_⟩) ?_ ?_
             rotate_left
             ·intro w'
              go_simp
              with_reducible rfl
             rotate_left
             ·simp only [Act.put, sA_, sB_, sC_, i64_w, i32_w]
              rfl
             refine pure_ (i := 4) (N := some 47) (v := ?_) (a' := ?_) #[true, false, false, true, true, false, false, false, false] rfl rfl (any_of HT_.out (by kernel_rfl)) (fun _ _ _ h => h) (Or.inl ⟨by rfl, ?_⟩) ?_ ?_
             rotate_left
             ·intro w'
              go_simp
              with_reducible rfl
             rotate_left
             ·simp only [Act.put, sA_, sB_, sC_, i64_w, i32_w]
              rfl
             refine pure_ (i := 5) (N := some 48) (v := ?_) (a' := ?_) #[true, false, false, true, true, true, false, false, false] rfl rfl (any_of HT_.out (by kernel_rfl)) (fun _ _ _ h => h) (Or.inl ⟨by rfl, ?_⟩) ?_ ?_
             rotate_left
             ·intro w'
              go_simp
              with_reducible rfl
             rotate_left
             ·simp only [Act.put, sA_, sB_, sC_, i64_w, i32_w]
              rfl
             refine pure_ (i := 6) (N := some 49) (v := ?_) (a' := ?_) #[true, false, false, true, true, true, true, false, false] rfl rfl (any_of HT_.out (by kernel_rfl)) (fun _ _ _ h => h) (Or.inl ⟨by rfl, ?_⟩) ?_ ?_
             rotate_left
             ·intro w'
              go_simp
              with_reducible rfl
             rotate_left
             ·simp only [Act.put, sA_, sB_, sC_, i64_w, i32_w]
              rfl
             refine join_ (σ := Value) 1 #[true, true, true, true, true, true, true, true, false] (fun s_ => [(44, s_), (45, .string (strOfNums t387)), (50, .string (strOfNums y390))]) (fun s_ w' => (Kd.R (Kd.int .u8) 5 w' w.heap.size (fun _ => True) s_ t387) ∧ (Below w.heap.size w w')) ?_ ?_
             rotate_left
             ·intro hCont
              refine two_ (i := 1) (j := 7) (Ni := some 44) (Nj := some 50) #[true, true, false, true, true, true, true, false, false] #[true, false, false, true, true, true, true, true, false] rfl rfl rfl rfl (two_of HT_.out (by kernel_rfl)) (by decide) (by decide) (fun K hK => ?_) (fun K hK => ?_)
              ·skip
               refine goes_ Try.func71 (by kernel_rfl) rfl #[.int .i64 x6_2] (by rfl) rfl rfl kz11_4 ?_
               with_reducible refine (tumbrelref01_Number.calls k2 x6_2 t387 _ A13.out).mono ?_
               rintro e w26 ⟨v388, rfl, ho0, hb⟩
               refine ⟨_, rfl, ?_⟩
               have n0_ := Aside0.mk (Kd.R_lower ho0 (below_size kz11_1))
               have n1_ := Aside0.mk (below_step kz11_1 hb)
               clear HB
               have HO389 := n0_
               have HB := n1_
               clear n0_ n1_
               (try clear hb)
               (try clear hb2)
               (try clear hk)
               (try clear hi)
               (try clear ho0)
               refine hK.out _ _ trivial (fun hHeld => ?_)
               clear hK K
               refine norm_ (a' := ?_) ?_ ?_
               rotate_left
               ·show Act.put _ (some 44) _ = _
                simp only [Act.put, sA_, sB_, sC_, i64_w, i32_w]
                rfl
               refine two_ (i := 2) (j := 7) (Ni := some 45) (Nj := some 50) #[true, true, true, true, true, true, true, false, false] #[true, true, false, true, true, true, true, true, false] rfl rfl rfl rfl (two_of HT_.out (by kernel_rfl)) (by decide) (by decide) (fun K hK => ?_) (fun K hK => ?_)
               ·skip
                have hcv27 := own_string (P := Try.prog) Try.underlying50 Try.underlying5 Try.underlying9 (Kd.own_of_R HO389.out)
                refine value_ (w1 := ?_) (v := ?_) (by rfl) rfl ?_ ?_
                rotate_left 2
                ·go_simp
                 constructor
                 ·rfl
                 ·rfl
                clear hcv27
                refine hK.out _ _ trivial (fun hHeld => ?_)
                clear hK K
                refine norm_ (a' := ?_) ?_ ?_
                rotate_left
                ·show Act.put _ (some 45) _ = _
                 simp only [Act.put, sA_, sB_, sC_, i64_w, i32_w]
                 rfl
                refine one_ (i := 7) (N := some 50) #[true, true, true, true, true, true, true, true, false] rfl rfl (one_of HT_.out (by kernel_rfl)) (by decide) (fun K hK => ?_)
                have hcv28 := Kd.C_string (P := Try.prog) (A := (some ad384)) (c := c0) Try.underlying50 Try.underlying5 Try.underlying9 (Kd.C_below HR393.out HB.out); have hcv28d := fun m_ => Kd.C_string (P := Try.prog) (A := (some ad384)) (c := c0) Try.underlying50 Try.underlying5 Try.underlying9 (Kd.C_drewN ((Kd.C_below HR393.out HB.out)) m_)
                refine value_ (w1 := ?_) (v := ?_) (by rfl) rfl ?_ ?_
                rotate_left 2
                ·go_simp
                 constructor
                 ·rfl
                 ·rfl
                clear hcv28 hcv28d
                refine hK.out _ _ trivial (fun hHeld => ?_)
                clear hK K
                refine norm_ (a' := ?_) ?_ ?_
                rotate_left
                ·show Act.put _ (some 50) _ = _
                 simp only [Act.put, sA_, sB_, sC_, i64_w, i32_w]
                 rfl
                exact norm_ kz11_5 (hCont (v388) _ ⟨kz11_2, kz11_1⟩)
               ·skip
                have hcv27 := Kd.C_string (P := Try.prog) (A := (some ad384)) (c := c0) Try.underlying50 Try.underlying5 Try.underlying9 (Kd.C_below HR393.out HB.out); have hcv27d := fun m_ => Kd.C_string (P := Try.prog) (A := (some ad384)) (c := c0) Try.underlying50 Try.underlying5 Try.underlying9 (Kd.C_drewN ((Kd.C_below HR393.out HB.out)) m_)
                refine value_ (w1 := ?_) (v := ?_) (by rfl) rfl ?_ ?_
                rotate_left 2
                ·go_simp
                 constructor
                 ·rfl
                 ·rfl
                clear hcv27 hcv27d
                refine hK.out _ _ trivial (fun hHeld => ?_)
                clear hK K
                refine norm_ (a' := ?_) ?_ ?_
                rotate_left
                ·show Act.put _ (some 50) _ = _
                 simp only [Act.put, sA_, sB_, sC_, i64_w, i32_w]
                 rfl
                refine one_ (i := 2) (N := some 45) #[true, true, true, true, true, true, true, true, false] rfl rfl (one_of HT_.out (by kernel_rfl)) (by decide) (fun K hK => ?_)
                have hcv28 := own_string (P := Try.prog) Try.underlying50 Try.underlying5 Try.underlying9 (Kd.own_of_R HO389.out)
                refine value_ (w1 := ?_) (v := ?_) (by rfl) rfl ?_ ?_
                rotate_left 2
                ·go_simp
                 constructor
                 ·rfl
                 ·rfl
                clear hcv28
                refine hK.out _ _ trivial (fun hHeld => ?_)
                clear hK K
                refine norm_ (a' := ?_) ?_ ?_
                rotate_left
                ·show Act.put _ (some 45) _ = _
                 simp only [Act.put, sA_, sB_, sC_, i64_w, i32_w]
                 rfl
                exact norm_ kz11_5 (hCont (v388) _ ⟨kz11_2, kz11_1⟩)
              ·skip
               have hcv26 := Kd.C_string (P := Try.prog) (A := (some ad384)) (c := c0) Try.underlying50 Try.underlying5 Try.underlying9 (Kd.C_below HR393.out HB.out); have hcv26d := fun m_ => Kd.C_string (P := Try.prog) (A := (some ad384)) (c := c0) Try.underlying50 Try.underlying5 Try.underlying9 (Kd.C_drewN ((Kd.C_below HR393.out HB.out)) m_)
               refine value_ (w1 := ?_) (v := ?_) (by rfl) rfl ?_ ?_
               rotate_left 2
               ·go_simp
                constructor
                ·rfl
                ·rfl
               clear hcv26 hcv26d
               refine hK.out _ _ trivial (fun hHeld => ?_)
               clear hK K
               refine norm_ (a' := ?_) ?_ ?_
               rotate_left
               ·show Act.put _ (some 50) _ = _
                simp only [Act.put, sA_, sB_, sC_, i64_w, i32_w]
                rfl
               refine one_ (i := 1) (N := some 44) #[true, true, false, true, true, true, true, true, false] rfl rfl (one_of HT_.out (by kernel_rfl)) (by decide) (fun K hK => ?_)
               refine goes_ Try.func71 (by kernel_rfl) rfl #[.int .i64 x6_2] (by rfl) rfl rfl kz11_4 ?_
               with_reducible refine (tumbrelref01_Number.calls k2 x6_2 t387 _ A13.out).mono ?_
               rintro e w27 ⟨v388, rfl, ho0, hb⟩
               refine ⟨_, rfl, ?_⟩
               have n0_ := Aside0.mk (Kd.R_lower ho0 (below_size kz11_1))
               have n1_ := Aside0.mk (below_step kz11_1 hb)
               clear HB
               have HO389 := n0_
               have HB := n1_
               clear n0_ n1_
               (try clear hb)
               (try clear hb2)
               (try clear hk)
               (try clear hi)
               (try clear ho0)
               refine hK.out _ _ trivial (fun hHeld => ?_)
               clear hK K
               refine norm_ (a' := ?_) ?_ ?_
               rotate_left
               ·show Act.put _ (some 44) _ = _
                simp only [Act.put, sA_, sB_, sC_, i64_w, i32_w]
                rfl
               refine one_ (i := 2) (N := some 45) #[true, true, true, true, true, true, true, true, false] rfl rfl (one_of HT_.out (by kernel_rfl)) (by decide) (fun K hK => ?_)
               have hcv28 := own_string (P := Try.prog) Try.underlying50 Try.underlying5 Try.underlying9 (Kd.own_of_R HO389.out)
               refine value_ (w1 := ?_) (v := ?_) (by rfl) rfl ?_ ?_
               rotate_left 2
               ·go_simp
                constructor
                ·rfl
                ·rfl
               clear hcv28
               refine hK.out _ _ trivial (fun hHeld => ?_)
               clear hK K
               refine norm_ (a' := ?_) ?_ ?_
               rotate_left
               ·show Act.put _ (some 45) _ = _
                simp only [Act.put, sA_, sB_, sC_, i64_w, i32_w]
                rfl
               exact norm_ kz11_5 (hCont (v388) _ ⟨kz11_2, kz11_1⟩)
             rintro v388 w29 ⟨h0_, h1_⟩
             have n0_ : Aside0 (Kd.R (Kd.int .u8) 5 w29 w.heap.size (fun _ => True) v388 t387) := ⟨h0_⟩
             have n1_ : Aside0 (Below w.heap.size w w29) := ⟨h1_⟩
             clear HB
             clear h0_ h1_
             have HO389 := n0_
             have HB := n1_
             clear n0_ n1_
             have hHeld := trivial
             refine norm_ (a' := ?_) ?_ ?_
             rotate_left
             ·simp only [putAll, Act.put, sA_, sB_, sC_]
              rfl
             refine pure_ (i := 8) (N := some 51) (v := ?_) (a' := ?_) #[true, true, true, true, true, true, true, true, true] rfl rfl (any_of HT_.out (by kernel_rfl)) (fun _ _ _ h => h) (Or.inl ⟨by rfl, ?_⟩) ?_ ?_
             rotate_left
             ·intro w'
              go_simp
              with_reducible rfl
             rotate_left
             ·simp only [Act.put, sA_, sB_, sC_, i64_w, i32_w]
              rfl
             refine done_ (done_of HT_.out (by kernel_rfl)) ?_
             try go_wp2
             go_ret3
             exact ⟨by first | rfl | (simp [errW_none, errW_some] <;> rfl) | (simp only [← hji14]; first | rfl | (simp [errW_none, errW_some] <;> rfl)) | (simp [*, errW_none, errW_some] <;> rfl), by repeat (first | (with_reducible first | exact HB.out | apply below_alloc | apply pw_below_drewN | apply below_drew1) | exact HB.out)⟩
           ·rw [if_neg c16] at H
            exact absurd H (by simp)
          ·rw [if_neg c15] at H
           exact absurd H (by simp)
  ·rw [if_neg c3] at H
   exact absurd H (by simp)

end Go.Proofs.Ytdglbiafpofeeaa.POutboxDecodes
