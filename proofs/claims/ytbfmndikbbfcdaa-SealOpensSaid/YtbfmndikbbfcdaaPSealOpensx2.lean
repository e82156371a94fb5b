-- Written by fprint.py (wip), by way of the printer's functions; where they are turned, by texts of mine.
import Derived.Test.YtbfmndikbbfcdaaPSealOpensx0
import Derived.Test.YtbfmndikbbfcdaaPSealOpensx1
namespace Go.Proofs.Ytbfmndikbbfcdaa.PSealOpens
open Go.RowKit Go.Proofs.YtbfmndikbbfcdaaW.PrintWords Go.Proofs.YtbfmndikbbfcdaaW.PrintLast Go.Proofs.YtbfmndikbbfcdaaW.PrintMore
attribute [local go_sem] max2_int min2_int max_two min_two max_three min_three max_four min_four   -- for this text's walks alone
set_option linter.unusedVariables false
set_option linter.unusedSimpArgs false

/-! ### tumbrelref01_Open: function 22 -/
def tumbrelref01_Open.j0 : Nat → List Int → Int → Bool → Option (List Int × Int × Int)
  | 0, _, _, _ => none
  | k + 1, x0, x5, x35 => if x35 = true then (some (([] : List Int), 0, 9)) else (if (x0.length : Int) < (wrap64 (6 + x5)) then (some (([] : List Int), 0, 5)) else (if 0 ≤ (wrap64 (4 + x5)) then (if (wrap64 (4 + x5)) ≤ (x0.length : Int) then ((tumbrelref01_Sum.f k (x0.take ((wrap64 (4 + x5)) : Int).toNat)).bind fun t180 => ((tumbrelref01_two.f t180).bind fun t181 => (if (wrap64 (4 + x5)) ≤ (wrap64 (6 + x5)) then (if (wrap64 (6 + x5)) ≤ (x0.length : Int) then (if (strOfNums t181).toList = (strOfNums ((x0.take ((wrap64 (6 + x5)) : Int).toNat).drop ((wrap64 (4 + x5)) : Int).toNat)).toList then ((some (([] : List Int) : List Int)).bind fun y188 => (if 4 ≤ (wrap64 (4 + x5)) then ((some ((x0.take ((wrap64 (4 + x5)) : Int).toNat).drop 4 : List Int)).bind fun y191 => (if y188.length + y191.length < 140737488355328 then (some ((y188 ++ y191), wrap64 (6 + x5), 0)) else (none))) else (none))) else (some (([] : List Int), 0, 9))) else (none)) else (none)))) else (none)) else (none)))
def tumbrelref01_Open.f (k : Nat) (l0 : List Int) : Option (List Int × Int × Int) := if (l0.length : Int) < 4 then (some (([] : List Int), 0, 5)) else (if 0 < (l0.length : Int) then (if 1 < (l0.length : Int) then (if (Go.bits .or .i64 (wrap64 ((wrap64 (rd l0 0)) * 256)) (wrap64 (rd l0 1))) < 1 then (tumbrelref01_Open.j0 k l0 (Go.bits .or .i64 (wrap64 ((wrap64 (rd l0 0)) * 256)) (wrap64 (rd l0 1))) true) else (if (Go.bits .or .i64 (wrap64 ((wrap64 (rd l0 0)) * 256)) (wrap64 (rd l0 1))) > 14000 then (tumbrelref01_Open.j0 k l0 (Go.bits .or .i64 (wrap64 ((wrap64 (rd l0 0)) * 256)) (wrap64 (rd l0 1))) true) else (if 2 ≤ (l0.length : Int) then ((tumbrelref01_Sum.f k (l0.take 2)).bind fun t168 => ((tumbrelref01_two.f t168).bind fun t169 => (if 2 ≤ 4 then (if 4 ≤ (l0.length : Int) then (tumbrelref01_Open.j0 k l0 (Go.bits .or .i64 (wrap64 ((wrap64 (rd l0 0)) * 256)) (wrap64 (rd l0 1))) ((strOfNums t169).toList != (strOfNums ((l0.take 4).drop 2)).toList)) else (none)) else (none)))) else (none)))) else (none)) else (none))
theorem tumbrelref01_Open.mono_l : ∀ k, (∀ y0 y1 y2, LeO (tumbrelref01_Open.j0 k y0 y1 y2) (tumbrelref01_Open.j0 (k + 1) y0 y1 y2))
  | 0 => fun _ _ _ r h => by simp [tumbrelref01_Open.j0] at h
  | k + 1 => by
    have ih0 := tumbrelref01_Open.mono_l k
    · intro y0 y1 y2
      unfold tumbrelref01_Open.j0
      repeat' first
      | (with_reducible exact ih0 _ _ _)
      | (with_reducible exact tumbrelref01_Sum.mono _ _)
      | (with_reducible exact LeO.refl _)
      | (with_reducible exact LeO.none _)
      | (with_reducible refine LeO.ite ?_ ?_)
      | (with_reducible refine LeO.bind ?_ (fun _ => ?_))
      | exact ih0 _ _ _
      | exact tumbrelref01_Sum.mono _ _
      | exact LeO.none _
      | refine LeO.ite ?_ ?_
      | refine LeO.bind ?_ (fun _ => ?_)
theorem tumbrelref01_Open.mono : ∀ a0 k, LeO (tumbrelref01_Open.f k a0) (tumbrelref01_Open.f (k + 1) a0) := by
  intro a0 k
  have ih0 := tumbrelref01_Open.mono_l k
  unfold tumbrelref01_Open.f
  repeat' first
      | (with_reducible exact ih0 _ _ _)
      | (with_reducible exact tumbrelref01_Sum.mono _ _)
      | (with_reducible exact LeO.refl _)
      | (with_reducible exact LeO.none _)
      | (with_reducible refine LeO.ite ?_ ?_)
      | (with_reducible refine LeO.bind ?_ (fun _ => ?_))
      | exact ih0 _ _ _
      | exact tumbrelref01_Sum.mono _ _
      | exact LeO.none _
      | refine LeO.ite ?_ ?_
      | refine LeO.bind ?_ (fun _ => ?_)
def tumbrelref01_Open.T3 : Bool × List (List Nat × List Nat) := (true, [([], []), ([0], [0]), ([1], [1]), ([2], [2]), ([3], [3]), ([], []), ([5], [5]), ([6], [6]), ([7], [7]), ([4, 8], [4, 8]), ([9, 0, 1, 2, 3, 4, 5, 6, 7, 8, 9], [9])])
def tumbrelref01_Open.B3 : List Nat := [0, 1, 3, 7, 15, 0, 32, 96, 224, 511, 1023]
theorem tumbrelref01_Open.tab3 : rtab .any (opsOf Try.f22 3) = tumbrelref01_Open.T3 := by kernel_rfl
theorem tumbrelref01_Open.bits3 : waitsOk tumbrelref01_Open.T3.2 tumbrelref01_Open.B3 = true := by kernel_rfl
def tumbrelref01_Open.T4 : Bool × List (List Nat × List Nat) := (true, [([], []), ([0], [0]), ([1], [1]), ([2], [2]), ([3, 2], [2, 3]), ([2, 4], [2, 4]), ([5, 2], [5]), ([6], [6]), ([7, 6], [6, 7]), ([8, 6, 6], [6, 8]), ([9, 9, 6], [6, 9]), ([10, 6], [6, 10]), ([6], [6]), ([12, 6], [6, 12]), ([13, 6], [6, 13]), ([11, 14, 6], [6, 11, 14]), ([6, 15], [6, 15])])
def tumbrelref01_Open.B4 : List Nat := [0, 1, 3, 7, 15, 31, 63, 127, 255, 511, 1023, 2047, 127, 4223, 12415, 32767, 65535]
theorem tumbrelref01_Open.tab4 : rtab .any (opsOf Try.f22 4) = tumbrelref01_Open.T4 := by kernel_rfl
theorem tumbrelref01_Open.bits4 : waitsOk tumbrelref01_Open.T4.2 tumbrelref01_Open.B4 = true := by kernel_rfl
def tumbrelref01_Open.T8 : Bool × List (List Nat × List Nat) := (true, [([], []), ([], []), ([1], [1]), ([0, 2], [0, 2]), ([3], [3]), ([4, 4], [4]), ([5], [5]), ([], []), ([], []), ([8], [8]), ([], []), ([10], [10]), ([7, 9, 11], [7, 9, 11]), ([12], [12]), ([6, 13], [6, 13])])
def tumbrelref01_Open.B8 : List Nat := [0, 0, 2, 7, 15, 31, 63, 0, 0, 256, 0, 1024, 3968, 8064, 16383]
theorem tumbrelref01_Open.tab8 : rtab .any (opsOf Try.f22 8) = tumbrelref01_Open.T8 := by kernel_rfl
theorem tumbrelref01_Open.bits8 : waitsOk tumbrelref01_Open.T8.2 tumbrelref01_Open.B8 = true := by kernel_rfl
set_option maxHeartbeats 8000000 in
set_option maxRecDepth 100000 in
theorem tumbrelref01_Open.calls (k : Nat) (A0 : Option Addr) (c0 : Nat) (l0 : List Int) (r1 : List Int) (r2 : Int) (r3 : Int) (w : World) (hr0 : Kd.C (Kd.int .u8) w A0 l0.length l0) (hc0 : l0.length ≤ c0) (h : tumbrelref01_Open.f k l0 = some (r1, r2, r3)) :
    Calls Try.prog 22 #[.slice A0 l0.length c0] w fun e w' => ∃ v0_ : Value, e = .returned (.tuple #[v0_, .int .i64 r2, .int .i64 r3]) ∧ Kd.R (Kd.int .u8) 5 w' w.heap.size (fun _ => True) v0_ r1 ∧ Below w.heap.size w w' := by
  have HR0 := Aside0.mk hr0
  have HC0 := Aside0.mk hc0
  clear hr0 hc0
  have HB := Aside0.mk (Below.refl w.heap.size w)
  have H : (if (l0.length : Int) < 4 then (some (([] : List Int), 0, 5)) else (if 0 < (l0.length : Int) then (if 1 < (l0.length : Int) then (if (Go.bits .or .i64 (wrap64 ((wrap64 (rd l0 0)) * 256)) (wrap64 (rd l0 1))) < 1 then (tumbrelref01_Open.j0 k l0 (Go.bits .or .i64 (wrap64 ((wrap64 (rd l0 0)) * 256)) (wrap64 (rd l0 1))) true) else (if (Go.bits .or .i64 (wrap64 ((wrap64 (rd l0 0)) * 256)) (wrap64 (rd l0 1))) > 14000 then (tumbrelref01_Open.j0 k l0 (Go.bits .or .i64 (wrap64 ((wrap64 (rd l0 0)) * 256)) (wrap64 (rd l0 1))) true) else (if 2 ≤ (l0.length : Int) then ((tumbrelref01_Sum.f k (l0.take 2)).bind fun t168 => ((tumbrelref01_two.f t168).bind fun t169 => (if 2 ≤ 4 then (if 4 ≤ (l0.length : Int) then (tumbrelref01_Open.j0 k l0 (Go.bits .or .i64 (wrap64 ((wrap64 (rd l0 0)) * 256)) (wrap64 (rd l0 1))) ((strOfNums t169).toList != (strOfNums ((l0.take 4).drop 2)).toList)) else (none)) else (none)))) else (none)))) else (none)) else (none))) = some (r1, r2, r3) := h
  clear h
  by_cases c2 : (l0.length : Int) < 4
  · rw [if_pos c2] at H
    have c2b0 : decide ((l0.length : Int) < 4) = true := decide_eq_true c2
    have c2b1 : decide (l0.length < 4) = true := decide_eq_true (by omega)
    clear c2
    simp only [Option.some.injEq, Prod.mk.injEq] at H
    obtain ⟨rfl, rfl, rfl⟩ := H
    go_enter Try.func22, Try.ntmps22
    go_wp2
    go_ret3
    exact ⟨_, by first | rfl | (simp [errW_none, errW_some] <;> rfl) | (simp [*, errW_none, errW_some] <;> rfl), by first | exact Kd.R_nil _ _ _ _ _ | exact Kd.N_nil _ _ _ _ _ | exact Kd.V_nil _ _ _ _ _ | exact Kd.Q_nil _ _ _ _ _ | exact Kd.S_nil _ _ _ _ _, by repeat (first | (with_reducible first | exact HB.out | apply below_alloc | apply pw_below_drewN | apply below_drew1) | exact HB.out)⟩
  · rw [if_neg c2] at H
    have c2b0 : decide ((l0.length : Int) < 4) = false := decide_eq_false c2
    have c2b1 : decide (l0.length < 4) = false := decide_eq_false (by omega)
    clear c2
    by_cases c3 : 0 < (l0.length : Int)
    · rw [if_pos c3] at H
      have c3b0 : decide (0 < (l0.length : Int)) = true := decide_eq_true c3
      have c3b1 : decide (0 < l0.length) = true := decide_eq_true (by omega)
      clear c3
      by_cases c4 : 1 < (l0.length : Int)
      · rw [if_pos c4] at H
        have c4b0 : decide (1 < (l0.length : Int)) = true := decide_eq_true c4
        have c4b1 : decide (1 < l0.length) = true := decide_eq_true (by omega)
        clear c4
        have HC5 := Aside0.mk H
        clear H
        go_enter Try.func22, Try.ntmps22
        try go_wp2
        have n0_ := Aside0.mk (below_drew1 HB.out)
        clear HB
        have HB := n0_
        clear n0_
        have p162 : 0 ≤ (0 : Int) := (by omega)
        have q162 : 0 < (l0.length : Int) := of_decide_eq_true (by first | (with_reducible assumption) | assumption)
        obtain ⟨ad162, e162, hx162_0⟩ := Kd.at_int HR0.out 0 p162 q162
        have hw162_0 := hx162_0
        (try rw [show ((0 : Int)).toNat = 0 from rfl] at hw162_0)
        (try rw [show 0 * 1 = 0 from rfl] at hw162_0)
        (try rw [Addr.add_zero'] at hw162_0)
        cases e162
        have qi162 : (0 < l0.length) = True := eq_true (by omega)
        (try rw [show ((0 : Int)).toNat = 0 from rfl] at hx162_0)
        (try rw [Addr.add_zero'] at hx162_0)
        replace hx162_0 := (HB.out.cell (World.block_lt_of_cell? w _ hx162_0)).trans hx162_0
        replace p162 := eq_true p162
        replace q162 := eq_true q162
        have p163 : 0 ≤ (1 : Int) := (by omega)
        have q163 : 1 < (l0.length : Int) := of_decide_eq_true (by first | (with_reducible assumption) | assumption)
        obtain ⟨ad163, e163, hx163_0⟩ := Kd.at_int HR0.out 1 p163 q163
        have hw163_0 := hx163_0
        (try rw [show ((1 : Int)).toNat = 1 from rfl] at hw163_0)
        (try rw [show 1 * 1 = 1 from rfl] at hw163_0)
        (try simp only [Nat.reduceMul, Nat.reduceEqDiff, Go.Addr.add, ↓reduceIte] at hw163_0)
        obtain rfl : ad162 = ad163 := (by injection e163)
        (try simp only [show (1 : Int).toNat = 1 from rfl, Nat.reduceMul, Nat.reduceEqDiff, Go.Addr.add, ↓reduceIte] at hx163_0)
        have qi163 : (1 < l0.length) = True := eq_true (by omega)
        (try rw [show ((1 : Int)).toNat = 1 from rfl] at hx163_0)
        replace hx163_0 := (HB.out.cell (World.block_lt_of_cell? w _ hx163_0)).trans hx163_0
        replace p163 := eq_true p163
        replace q163 := eq_true q163
        refine start_ (n := 11) (S := fun w' => w'.cell? ad162 = some (.int .u8 (rd l0 0)) ∧ w'.cell? ⟨ad162.block, ad162.off + 1, none⟩ = some (.int .u8 (rd l0 1))) (ds := []) #[false, false, false, false, false, false, false, false, false, false, false] (by kernel_rfl) rfl rfl ⟨((HB.out.cell (World.block_lt_of_cell? w _ hw162_0)).trans hw162_0), ((HB.out.cell (World.block_lt_of_cell? w _ hw163_0)).trans hw163_0)⟩ (fun hHeld => ?_); refine with_tabW tumbrelref01_Open.tab3 tumbrelref01_Open.bits3 (fun HT_ HW_ => ?_)
        generalize w.drew = w6 at HB hx162_0 hx163_0 hHeld ⊢
        refine pure_ (i := 0) (N := some 9) (v := ?_) (a' := ?_) #[true, false, false, false, false, false, false, false, false, false, false] rfl rfl (any_of HT_.out (by kernel_rfl)) (fun _ _ _ h => h) (Or.inl ⟨by rfl, ?_⟩) ?_ ?_
        rotate_left
        · intro w'
          go_simp
          with_reducible rfl
        rotate_left
        · simp only [Act.put, List.setIfInBounds_toArray, List.set_cons_zero, List.set_cons_succ, i64_w, i32_w]
          rfl
        refine pure_ (i := 1) (N := some 10) (v := ?_) (a' := ?_) #[true, true, false, false, false, false, false, false, false, false, false] rfl rfl (any_of HT_.out (by kernel_rfl)) (fun _ _ _ h => h) (Or.inl ⟨by rfl, ?_⟩) ?_ ?_
        rotate_left
        · intro w'
          go_simp
          with_reducible rfl
        rotate_left
        · simp only [Act.put, List.setIfInBounds_toArray, List.set_cons_zero, List.set_cons_succ, i64_w, i32_w]
          rfl
        refine pure_ (i := 5) (N := some 14) (v := ?_) (a' := ?_) #[true, true, false, false, false, true, false, false, false, false, false] rfl rfl (any_of HT_.out (by kernel_rfl)) (fun _ _ _ h => h) (Or.inl ⟨by rfl, ?_⟩) ?_ ?_
        rotate_left
        · intro w'
          go_simp
          with_reducible rfl
        rotate_left
        · simp only [Act.put, List.setIfInBounds_toArray, List.set_cons_zero, List.set_cons_succ, i64_w, i32_w]
          rfl
        refine pure_ (i := 6) (N := some 15) (v := ?_) (a' := ?_) #[true, true, false, false, false, true, true, false, false, false, false] rfl rfl (any_of HT_.out (by kernel_rfl)) (fun _ _ _ h => h) (Or.inl ⟨by rfl, ?_⟩) ?_ ?_
        rotate_left
        · intro w'
          go_simp
          with_reducible rfl
        rotate_left
        · simp only [Act.put, List.setIfInBounds_toArray, List.set_cons_zero, List.set_cons_succ, i64_w, i32_w]
          rfl
        refine take_ (i := 2) (N := some 11) (v := ?_) (a' := ?_) #[true, true, true, false, false, true, true, false, false, false, false] rfl rfl (take_ofW HT_.out HW_.out (by kernel_rfl)) (fun _ _ _ h => h) (Or.inl ⟨by rfl, ?_⟩) hHeld ?_ ?_
        rotate_left
        · rintro w' ⟨s0, s1⟩
          go_simp
          with_reducible rfl
        rotate_left
        · simp only [Act.put, List.setIfInBounds_toArray, List.set_cons_zero, List.set_cons_succ, i64_w, i32_w]
          rfl
        refine pure_ (i := 3) (N := some 12) (v := ?_) (a' := ?_) #[true, true, true, true, false, true, true, false, false, false, false] rfl rfl (any_of HT_.out (by kernel_rfl)) (fun _ _ _ h => h) (Or.inl ⟨by rfl, ?_⟩) ?_ ?_
        rotate_left
        · intro w'
          go_simp
          with_reducible rfl
        rotate_left
        · simp only [Act.put, List.setIfInBounds_toArray, List.set_cons_zero, List.set_cons_succ, i64_w, i32_w]
          rfl
        refine pure_ (i := 4) (N := some 13) (v := ?_) (a' := ?_) #[true, true, true, true, true, true, true, false, false, false, false] rfl rfl (any_of HT_.out (by kernel_rfl)) (fun _ _ _ h => h) (Or.inl ⟨by rfl, ?_⟩) ?_ ?_
        rotate_left
        · intro w'
          go_simp
          with_reducible rfl
        rotate_left
        · simp only [Act.put, List.setIfInBounds_toArray, List.set_cons_zero, List.set_cons_succ, i64_w, i32_w]
          rfl
        refine take_ (i := 7) (N := some 16) (v := ?_) (a' := ?_) #[true, true, true, true, true, true, true, true, false, false, false] rfl rfl (take_ofW HT_.out HW_.out (by kernel_rfl)) (fun _ _ _ h => h) (Or.inl ⟨by rfl, ?_⟩) hHeld ?_ ?_
        rotate_left
        · rintro w' ⟨s0, s1⟩
          go_simp
          with_reducible rfl
        rotate_left
        · simp only [Act.put, List.setIfInBounds_toArray, List.set_cons_zero, List.set_cons_succ, i64_w, i32_w]
          rfl
        refine pure_ (i := 8) (N := some 17) (v := ?_) (a' := ?_) #[true, true, true, true, true, true, true, true, true, false, false] rfl rfl (any_of HT_.out (by kernel_rfl)) (fun _ _ _ h => h) (Or.inl ⟨by rfl, ?_⟩) ?_ ?_
        rotate_left
        · intro w'
          go_simp
          with_reducible rfl
        rotate_left
        · simp only [Act.put, List.setIfInBounds_toArray, List.set_cons_zero, List.set_cons_succ, i64_w, i32_w]
          rfl
        refine pure_ (i := 9) (N := some 18) (v := ?_) (a' := ?_) #[true, true, true, true, true, true, true, true, true, true, false] rfl rfl (any_of HT_.out (by kernel_rfl)) (fun _ _ _ h => h) (Or.inl ⟨by rfl, ?_⟩) ?_ ?_
        rotate_left
        · intro w'
          go_simp
          with_reducible rfl
        rotate_left
        · simp only [Act.put, List.setIfInBounds_toArray, List.set_cons_zero, List.set_cons_succ, i64_w, i32_w]
          rfl
        refine pure_ (i := 10) (N := some 5) (v := ?_) (a' := ?_) #[true, true, true, true, true, true, true, true, true, true, true] rfl rfl (any_of HT_.out (by kernel_rfl)) (fun _ _ _ h => h) (Or.inl ⟨by rfl, ?_⟩) ?_ ?_
        rotate_left
        · intro w'
          go_simp
          with_reducible rfl
        rotate_left
        · simp only [Act.put, List.setIfInBounds_toArray, List.set_cons_zero, List.set_cons_succ, i64_w, i32_w]
          rfl
        refine done_ (done_of HT_.out (by kernel_rfl)) ?_
        go_upto_region 4 with (fail)
        go_cut [35] (fun v35 wc => ∃ (kq : Nat) (x35_4 : Bool), v35 = .bool x35_4 ∧ Aside0 (tumbrelref01_Open.j0 kq l0 (Go.bits .or .i64 (wrap64 ((wrap64 (rd l0 0)) * 256)) (wrap64 (rd l0 1))) x35_4 = some (r1, r2, r3)) ∧ Aside0 (kq ≤ k) ∧ Aside0 (Below w.heap.size w wc))
        case first =>
          have H := HC5.out
          clear HC5
          by_cases c7 : (Go.bits .or .i64 (wrap64 ((wrap64 (rd l0 0)) * 256)) (wrap64 (rd l0 1))) < 1
          · rw [if_pos c7] at H
            have c7b0 : decide ((Go.bits .or .i64 (wrap64 ((wrap64 (rd l0 0)) * 256)) (wrap64 (rd l0 1))) < 1) = true := decide_eq_true c7
            clear c7
            (first | rw [c7b0] | (simp only [i64_w, i32_w]; rw [c7b0]) | skip)
            have H' := Aside0.mk H
            clear H
            try go_wp2
            have n0_ := Aside0.mk (below_drew1 HB.out)
            clear HB
            have HB := n0_
            clear n0_
            refine start_ (n := 17) (S := fun w' => True) (ds := []) #[false, false, false, false, false, false, false, false, false, false, false, false, false, false, false, false, false] (by kernel_rfl) rfl rfl trivial (fun hHeld => ?_); refine with_tabW tumbrelref01_Open.tab4 tumbrelref01_Open.bits4 (fun HT_ HW_ => ?_)
            generalize w6.drew = w8 at HB hHeld ⊢
            refine pure_ (i := 0) (N := some 19) (v := ?_) (a' := ?_) #[true, false, false, false, false, false, false, false, false, false, false, false, false, false, false, false, false] rfl rfl (any_of HT_.out (by kernel_rfl)) (fun _ _ _ h => h) (Or.inl ⟨by rfl, ?_⟩) ?_ ?_
            rotate_left
            · intro w'
              go_simp
              with_reducible rfl
            rotate_left
            · simp only [Act.put, List.setIfInBounds_toArray, List.set_cons_zero, List.set_cons_succ, i64_w, i32_w]
              rfl
            refine pure_ (i := 1) (N := some 20) (v := ?_) (a' := ?_) #[true, true, false, false, false, false, false, false, false, false, false, false, false, false, false, false, false] rfl rfl (any_of HT_.out (by kernel_rfl)) (fun _ _ _ h => h) (Or.inl ⟨by rfl, ?_⟩) ?_ ?_
            rotate_left
            · intro w'
              go_simp
              with_reducible rfl
            rotate_left
            · simp only [Act.put, List.setIfInBounds_toArray, List.set_cons_zero, List.set_cons_succ, i64_w, i32_w]
              rfl
            refine pure_ (i := 2) (N := some 21) (v := ?_) (a' := ?_) #[true, true, true, false, false, false, false, false, false, false, false, false, false, false, false, false, false] rfl rfl (any_of HT_.out (by kernel_rfl)) (fun _ _ _ h => h) (Or.inl ⟨by rfl, ?_⟩) ?_ ?_
            rotate_left
            · intro w'
              go_simp
              with_reducible rfl
            rotate_left
            · simp only [Act.put, List.setIfInBounds_toArray, List.set_cons_zero, List.set_cons_succ, i64_w, i32_w]
              rfl
            refine pure_ (i := 3) (N := some 22) (v := undef) (a' := ?_) #[true, true, true, true, false, false, false, false, false, false, false, false, false, false, false, false, false] rfl rfl (any_of HT_.out (by kernel_rfl)) (fun _ _ _ h => h) (Or.inr ⟨by rfl, rfl⟩) ?_ ?_
            rotate_left
            · simp only [Act.put, List.setIfInBounds_toArray, List.set_cons_zero, List.set_cons_succ, i64_w, i32_w]
              rfl
            refine pure_ (i := 4) (N := some 23) (v := undef) (a' := ?_) #[true, true, true, true, true, false, false, false, false, false, false, false, false, false, false, false, false] rfl rfl (any_of HT_.out (by kernel_rfl)) (fun _ _ _ h => h) (Or.inr ⟨by rfl, rfl⟩) ?_ ?_
            rotate_left
            · simp only [Act.put, List.setIfInBounds_toArray, List.set_cons_zero, List.set_cons_succ, i64_w, i32_w]
              rfl
            refine pure_ (i := 5) (N := some 24) (v := ?_) (a' := ?_) #[true, true, true, true, true, true, false, false, false, false, false, false, false, false, false, false, false] rfl rfl (any_of HT_.out (by kernel_rfl)) (fun _ _ _ h => h) (Or.inl ⟨by rfl, ?_⟩) ?_ ?_
            rotate_left
            · intro w'
              go_simp
              with_reducible rfl
            rotate_left
            · simp only [Act.put, List.setIfInBounds_toArray, List.set_cons_zero, List.set_cons_succ, i64_w, i32_w]
              rfl
            refine pure_ (i := 6) (N := some 25) (v := ?_) (a' := ?_) #[true, true, true, true, true, true, true, false, false, false, false, false, false, false, false, false, false] rfl rfl (any_of HT_.out (by kernel_rfl)) (fun _ _ _ h => h) (Or.inl ⟨by rfl, ?_⟩) ?_ ?_
            rotate_left
            · intro w'
              go_simp
              with_reducible rfl
            rotate_left
            · simp only [Act.put, List.setIfInBounds_toArray, List.set_cons_zero, List.set_cons_succ, i64_w, i32_w]
              rfl
            refine pure_ (i := 7) (N := some 26) (v := undef) (a' := ?_) #[true, true, true, true, true, true, true, true, false, false, false, false, false, false, false, false, false] rfl rfl (any_of HT_.out (by kernel_rfl)) (fun _ _ _ h => h) (Or.inr ⟨by rfl, rfl⟩) ?_ ?_
            rotate_left
            · simp only [Act.put, List.setIfInBounds_toArray, List.set_cons_zero, List.set_cons_succ, i64_w, i32_w]
              rfl
            refine pure_ (i := 8) (N := some 27) (v := undef) (a' := ?_) #[true, true, true, true, true, true, true, true, true, false, false, false, false, false, false, false, false] rfl rfl (any_of HT_.out (by kernel_rfl)) (fun _ _ _ h => h) (Or.inr ⟨by rfl, rfl⟩) ?_ ?_
            rotate_left
            · simp only [Act.put, List.setIfInBounds_toArray, List.set_cons_zero, List.set_cons_succ, i64_w, i32_w]
              rfl
            refine pure_ (i := 9) (N := some 28) (v := undef) (a' := ?_) #[true, true, true, true, true, true, true, true, true, true, false, false, false, false, false, false, false] rfl rfl (any_of HT_.out (by kernel_rfl)) (fun _ _ _ h => h) (Or.inr ⟨by rfl, rfl⟩) ?_ ?_
            rotate_left
            · simp only [Act.put, List.setIfInBounds_toArray, List.set_cons_zero, List.set_cons_succ, i64_w, i32_w]
              rfl
            refine pure_ (i := 10) (N := some 29) (v := undef) (a' := ?_) #[true, true, true, true, true, true, true, true, true, true, true, false, false, false, false, false, false] rfl rfl (any_of HT_.out (by kernel_rfl)) (fun _ _ _ h => h) (Or.inr ⟨by rfl, rfl⟩) ?_ ?_
            rotate_left
            · simp only [Act.put, List.setIfInBounds_toArray, List.set_cons_zero, List.set_cons_succ, i64_w, i32_w]
              rfl
            refine pure_ (i := 11) (N := some 30) (v := undef) (a' := ?_) #[true, true, true, true, true, true, true, true, true, true, true, true, false, false, false, false, false] rfl rfl (any_of HT_.out (by kernel_rfl)) (fun _ _ _ h => h) (Or.inr ⟨by rfl, rfl⟩) ?_ ?_
            rotate_left
            · simp only [Act.put, List.setIfInBounds_toArray, List.set_cons_zero, List.set_cons_succ, i64_w, i32_w]
              rfl
            refine pure_ (i := 12) (N := some 31) (v := undef) (a' := ?_) #[true, true, true, true, true, true, true, true, true, true, true, true, true, false, false, false, false] rfl rfl (any_of HT_.out (by kernel_rfl)) (fun _ _ _ h => h) (Or.inr ⟨by rfl, rfl⟩) ?_ ?_
            rotate_left
            · simp only [Act.put, List.setIfInBounds_toArray, List.set_cons_zero, List.set_cons_succ, i64_w, i32_w]
              rfl
            refine pure_ (i := 13) (N := some 32) (v := undef) (a' := ?_) #[true, true, true, true, true, true, true, true, true, true, true, true, true, true, false, false, false] rfl rfl (any_of HT_.out (by kernel_rfl)) (fun _ _ _ h => h) (Or.inr ⟨by rfl, rfl⟩) ?_ ?_
            rotate_left
            · simp only [Act.put, List.setIfInBounds_toArray, List.set_cons_zero, List.set_cons_succ, i64_w, i32_w]
              rfl
            refine pure_ (i := 14) (N := some 33) (v := undef) (a' := ?_) #[true, true, true, true, true, true, true, true, true, true, true, true, true, true, true, false, false] rfl rfl (any_of HT_.out (by kernel_rfl)) (fun _ _ _ h => h) (Or.inr ⟨by rfl, rfl⟩) ?_ ?_
            rotate_left
            · simp only [Act.put, List.setIfInBounds_toArray, List.set_cons_zero, List.set_cons_succ, i64_w, i32_w]
              rfl
            refine pure_ (i := 15) (N := some 34) (v := undef) (a' := ?_) #[true, true, true, true, true, true, true, true, true, true, true, true, true, true, true, true, false] rfl rfl (any_of HT_.out (by kernel_rfl)) (fun _ _ _ h => h) (Or.inr ⟨by rfl, rfl⟩) ?_ ?_
            rotate_left
            · simp only [Act.put, List.setIfInBounds_toArray, List.set_cons_zero, List.set_cons_succ, i64_w, i32_w]
              rfl
            refine pure_ (i := 16) (N := some 35) (v := ?_) (a' := ?_) #[true, true, true, true, true, true, true, true, true, true, true, true, true, true, true, true, true] rfl rfl (any_of HT_.out (by kernel_rfl)) (fun _ _ _ h => h) (Or.inl ⟨by rfl, ?_⟩) ?_ ?_
            rotate_left
            · intro w'
              go_simp
              with_reducible rfl
            rotate_left
            · simp only [Act.put, List.setIfInBounds_toArray, List.set_cons_zero, List.set_cons_succ, i64_w, i32_w]
              rfl
            refine done_ (done_of HT_.out (by kernel_rfl)) ?_
            try go_wp2
            go_meet
            case rel => exact ⟨_, (true), (by first | rfl | (simp; done) | (simp [*]; done)), H', ⟨by first | omega | exact Nat.le_refl _⟩, ⟨by repeat (first | (with_reducible first | exact HB.out | apply below_alloc | apply pw_below_drewN | apply below_drew1) | exact HB.out)⟩⟩
          · rw [if_neg c7] at H
            have c7b0 : decide ((Go.bits .or .i64 (wrap64 ((wrap64 (rd l0 0)) * 256)) (wrap64 (rd l0 1))) < 1) = false := decide_eq_false c7
            clear c7
            (first | rw [c7b0] | (simp only [i64_w, i32_w]; rw [c7b0]) | skip)
            by_cases c9 : (Go.bits .or .i64 (wrap64 ((wrap64 (rd l0 0)) * 256)) (wrap64 (rd l0 1))) > 14000
            · rw [if_pos c9] at H
              have c9b0 : decide (14000 < (Go.bits .or .i64 (wrap64 ((wrap64 (rd l0 0)) * 256)) (wrap64 (rd l0 1)))) = true := decide_eq_true c9
              clear c9
              have H' := Aside0.mk H
              clear H
              try go_wp2
              have n0_ := Aside0.mk (below_drew1 HB.out)
              clear HB
              have HB := n0_
              clear n0_
              refine start_ (n := 17) (S := fun w' => True) (ds := []) #[false, false, false, false, false, false, false, false, false, false, false, false, false, false, false, false, false] (by kernel_rfl) rfl rfl trivial (fun hHeld => ?_); refine with_tabW tumbrelref01_Open.tab4 tumbrelref01_Open.bits4 (fun HT_ HW_ => ?_)
              generalize w6.drew = w10 at HB hHeld ⊢
              refine pure_ (i := 0) (N := some 19) (v := ?_) (a' := ?_) #[true, false, false, false, false, false, false, false, false, false, false, false, false, false, false, false, false] rfl rfl (any_of HT_.out (by kernel_rfl)) (fun _ _ _ h => h) (Or.inl ⟨by rfl, ?_⟩) ?_ ?_
              rotate_left
              · intro w'
                go_simp
                with_reducible rfl
              rotate_left
              · simp only [Act.put, List.setIfInBounds_toArray, List.set_cons_zero, List.set_cons_succ, i64_w, i32_w]
                rfl
              refine pure_ (i := 1) (N := some 20) (v := ?_) (a' := ?_) #[true, true, false, false, false, false, false, false, false, false, false, false, false, false, false, false, false] rfl rfl (any_of HT_.out (by kernel_rfl)) (fun _ _ _ h => h) (Or.inl ⟨by rfl, ?_⟩) ?_ ?_
              rotate_left
              · intro w'
                go_simp
                with_reducible rfl
              rotate_left
              · simp only [Act.put, List.setIfInBounds_toArray, List.set_cons_zero, List.set_cons_succ, i64_w, i32_w]
                rfl
              refine pure_ (i := 2) (N := some 21) (v := ?_) (a' := ?_) #[true, true, true, false, false, false, false, false, false, false, false, false, false, false, false, false, false] rfl rfl (any_of HT_.out (by kernel_rfl)) (fun _ _ _ h => h) (Or.inl ⟨by rfl, ?_⟩) ?_ ?_
              rotate_left
              · intro w'
                go_simp
                with_reducible rfl
              rotate_left
              · simp only [Act.put, List.setIfInBounds_toArray, List.set_cons_zero, List.set_cons_succ, i64_w, i32_w]
                rfl
              refine pure_ (i := 3) (N := some 22) (v := ?_) (a' := ?_) #[true, true, true, true, false, false, false, false, false, false, false, false, false, false, false, false, false] rfl rfl (any_of HT_.out (by kernel_rfl)) (fun _ _ _ h => h) (Or.inl ⟨by rfl, ?_⟩) ?_ ?_
              rotate_left
              · intro w'
                go_simp
                with_reducible rfl
              rotate_left
              · simp only [Act.put, List.setIfInBounds_toArray, List.set_cons_zero, List.set_cons_succ, i64_w, i32_w]
                rfl
              refine pure_ (i := 4) (N := some 23) (v := ?_) (a' := ?_) #[true, true, true, true, true, false, false, false, false, false, false, false, false, false, false, false, false] rfl rfl (any_of HT_.out (by kernel_rfl)) (fun _ _ _ h => h) (Or.inl ⟨by rfl, ?_⟩) ?_ ?_
              rotate_left
              · intro w'
                go_simp
                with_reducible rfl
              rotate_left
              · simp only [Act.put, List.setIfInBounds_toArray, List.set_cons_zero, List.set_cons_succ, i64_w, i32_w]
                rfl
              refine pure_ (i := 5) (N := some 24) (v := ?_) (a' := ?_) #[true, true, true, true, true, true, false, false, false, false, false, false, false, false, false, false, false] rfl rfl (any_of HT_.out (by kernel_rfl)) (fun _ _ _ h => h) (Or.inl ⟨by rfl, ?_⟩) ?_ ?_
              rotate_left
              · intro w'
                go_simp
                with_reducible rfl
              rotate_left
              · simp only [Act.put, List.setIfInBounds_toArray, List.set_cons_zero, List.set_cons_succ, i64_w, i32_w]
                rfl
              refine pure_ (i := 6) (N := some 25) (v := ?_) (a' := ?_) #[true, true, true, true, true, true, true, false, false, false, false, false, false, false, false, false, false] rfl rfl (any_of HT_.out (by kernel_rfl)) (fun _ _ _ h => h) (Or.inl ⟨by rfl, ?_⟩) ?_ ?_
              rotate_left
              · intro w'
                go_simp
                with_reducible rfl
              rotate_left
              · simp only [Act.put, List.setIfInBounds_toArray, List.set_cons_zero, List.set_cons_succ, i64_w, i32_w]
                rfl
              refine pure_ (i := 7) (N := some 26) (v := undef) (a' := ?_) #[true, true, true, true, true, true, true, true, false, false, false, false, false, false, false, false, false] rfl rfl (any_of HT_.out (by kernel_rfl)) (fun _ _ _ h => h) (Or.inr ⟨by rfl, rfl⟩) ?_ ?_
              rotate_left
              · simp only [Act.put, List.setIfInBounds_toArray, List.set_cons_zero, List.set_cons_succ, i64_w, i32_w]
                rfl
              refine pure_ (i := 8) (N := some 27) (v := undef) (a' := ?_) #[true, true, true, true, true, true, true, true, true, false, false, false, false, false, false, false, false] rfl rfl (any_of HT_.out (by kernel_rfl)) (fun _ _ _ h => h) (Or.inr ⟨by rfl, rfl⟩) ?_ ?_
              rotate_left
              · simp only [Act.put, List.setIfInBounds_toArray, List.set_cons_zero, List.set_cons_succ, i64_w, i32_w]
                rfl
              refine pure_ (i := 9) (N := some 28) (v := undef) (a' := ?_) #[true, true, true, true, true, true, true, true, true, true, false, false, false, false, false, false, false] rfl rfl (any_of HT_.out (by kernel_rfl)) (fun _ _ _ h => h) (Or.inr ⟨by rfl, rfl⟩) ?_ ?_
              rotate_left
              · simp only [Act.put, List.setIfInBounds_toArray, List.set_cons_zero, List.set_cons_succ, i64_w, i32_w]
                rfl
              refine pure_ (i := 10) (N := some 29) (v := undef) (a' := ?_) #[true, true, true, true, true, true, true, true, true, true, true, false, false, false, false, false, false] rfl rfl (any_of HT_.out (by kernel_rfl)) (fun _ _ _ h => h) (Or.inr ⟨by rfl, rfl⟩) ?_ ?_
              rotate_left
              · simp only [Act.put, List.setIfInBounds_toArray, List.set_cons_zero, List.set_cons_succ, i64_w, i32_w]
                rfl
              refine pure_ (i := 11) (N := some 30) (v := undef) (a' := ?_) #[true, true, true, true, true, true, true, true, true, true, true, true, false, false, false, false, false] rfl rfl (any_of HT_.out (by kernel_rfl)) (fun _ _ _ h => h) (Or.inr ⟨by rfl, rfl⟩) ?_ ?_
              rotate_left
              · simp only [Act.put, List.setIfInBounds_toArray, List.set_cons_zero, List.set_cons_succ, i64_w, i32_w]
                rfl
              refine pure_ (i := 12) (N := some 31) (v := undef) (a' := ?_) #[true, true, true, true, true, true, true, true, true, true, true, true, true, false, false, false, false] rfl rfl (any_of HT_.out (by kernel_rfl)) (fun _ _ _ h => h) (Or.inr ⟨by rfl, rfl⟩) ?_ ?_
              rotate_left
              · simp only [Act.put, List.setIfInBounds_toArray, List.set_cons_zero, List.set_cons_succ, i64_w, i32_w]
                rfl
              refine pure_ (i := 13) (N := some 32) (v := undef) (a' := ?_) #[true, true, true, true, true, true, true, true, true, true, true, true, true, true, false, false, false] rfl rfl (any_of HT_.out (by kernel_rfl)) (fun _ _ _ h => h) (Or.inr ⟨by rfl, rfl⟩) ?_ ?_
              rotate_left
              · simp only [Act.put, List.setIfInBounds_toArray, List.set_cons_zero, List.set_cons_succ, i64_w, i32_w]
                rfl
              refine pure_ (i := 14) (N := some 33) (v := undef) (a' := ?_) #[true, true, true, true, true, true, true, true, true, true, true, true, true, true, true, false, false] rfl rfl (any_of HT_.out (by kernel_rfl)) (fun _ _ _ h => h) (Or.inr ⟨by rfl, rfl⟩) ?_ ?_
              rotate_left
              · simp only [Act.put, List.setIfInBounds_toArray, List.set_cons_zero, List.set_cons_succ, i64_w, i32_w]
                rfl
              refine pure_ (i := 15) (N := some 34) (v := undef) (a' := ?_) #[true, true, true, true, true, true, true, true, true, true, true, true, true, true, true, true, false] rfl rfl (any_of HT_.out (by kernel_rfl)) (fun _ _ _ h => h) (Or.inr ⟨by rfl, rfl⟩) ?_ ?_
              rotate_left
              · simp only [Act.put, List.setIfInBounds_toArray, List.set_cons_zero, List.set_cons_succ, i64_w, i32_w]
                rfl
              refine pure_ (i := 16) (N := some 35) (v := ?_) (a' := ?_) #[true, true, true, true, true, true, true, true, true, true, true, true, true, true, true, true, true] rfl rfl (any_of HT_.out (by kernel_rfl)) (fun _ _ _ h => h) (Or.inl ⟨by rfl, ?_⟩) ?_ ?_
              rotate_left
              · intro w'
                go_simp
                with_reducible rfl
              rotate_left
              · simp only [Act.put, List.setIfInBounds_toArray, List.set_cons_zero, List.set_cons_succ, i64_w, i32_w]
                rfl
              refine done_ (done_of HT_.out (by kernel_rfl)) ?_
              try go_wp2
              go_meet
              case rel => exact ⟨_, (true), (by first | rfl | (simp; done) | (simp [*]; done)), H', ⟨by first | omega | exact Nat.le_refl _⟩, ⟨by repeat (first | (with_reducible first | exact HB.out | apply below_alloc | apply pw_below_drewN | apply below_drew1) | exact HB.out)⟩⟩
            · rw [if_neg c9] at H
              have c9b0 : decide (14000 < (Go.bits .or .i64 (wrap64 ((wrap64 (rd l0 0)) * 256)) (wrap64 (rd l0 1)))) = false := decide_eq_false c9
              clear c9
              by_cases c11 : 2 ≤ (l0.length : Int)
              · rw [if_pos c11] at H
                have c11b0 := eq_true c11
                have c11b1 : decide (2 ≤ (l0.length : Int)) = true := decide_eq_true c11
                clear c11
                obtain ⟨y164, hy164⟩ : ∃ y_ : List Int, y_ = (l0.take 2) := ⟨_, rfl⟩
                replace H : ((tumbrelref01_Sum.f k y164).bind fun t168 => ((tumbrelref01_two.f t168).bind fun t169 => (if 2 ≤ 4 then (if 4 ≤ (l0.length : Int) then (tumbrelref01_Open.j0 k l0 (Go.bits .or .i64 (wrap64 ((wrap64 (rd l0 0)) * 256)) (wrap64 (rd l0 1))) ((strOfNums t169).toList != (strOfNums ((l0.take 4).drop 2)).toList)) else (none)) else (none)))) = some (r1, r2, r3) := by first | (rw [hy164]; with_reducible exact H) | (have H2_ := (Option.bind_some _ _).symm.trans H; rw [hy164]; with_reducible exact H2_) | (have H2_ := (Option.bind_some _ _).symm.trans H; with_reducible exact H2_) | with_reducible exact H | (rw [hy164]; exact H) | exact H
                have Ny164 := Aside0.mk hy164
                clear hy164
                replace H := Option.bind_eq_some_iff.mp H
                obtain ⟨t168, A120, H⟩ := H
                replace H : ((tumbrelref01_two.f t168).bind fun t169 => (if 2 ≤ 4 then (if 4 ≤ (l0.length : Int) then (tumbrelref01_Open.j0 k l0 (Go.bits .or .i64 (wrap64 ((wrap64 (rd l0 0)) * 256)) (wrap64 (rd l0 1))) ((strOfNums t169).toList != (strOfNums ((l0.take 4).drop 2)).toList)) else (none)) else (none))) = some (r1, r2, r3) := H
                have A12 := Aside0.mk A120
                clear A120
                replace H := Option.bind_eq_some_iff.mp H
                obtain ⟨t169, A130, H⟩ := H
                replace H : (if 2 ≤ 4 then (if 4 ≤ (l0.length : Int) then (tumbrelref01_Open.j0 k l0 (Go.bits .or .i64 (wrap64 ((wrap64 (rd l0 0)) * 256)) (wrap64 (rd l0 1))) ((strOfNums t169).toList != (strOfNums ((l0.take 4).drop 2)).toList)) else (none)) else (none)) = some (r1, r2, r3) := H
                have A13 := Aside0.mk A130
                clear A130
                by_cases c14 : 2 ≤ 4
                · rw [if_pos c14] at H
                  have c14b0 := eq_true c14
                  have c14b1 : decide (2 ≤ 4) = true := decide_eq_true c14
                  clear c14
                  by_cases c15 : 4 ≤ (l0.length : Int)
                  · rw [if_pos c15] at H
                    have c15b0 := eq_true c15
                    have c15b1 : decide (4 ≤ (l0.length : Int)) = true := decide_eq_true c15
                    clear c15
                    obtain ⟨y172, hy172⟩ : ∃ y_ : List Int, y_ = ((l0.take 4).drop 2) := ⟨_, rfl⟩
                    replace H : (tumbrelref01_Open.j0 k l0 (Go.bits .or .i64 (wrap64 ((wrap64 (rd l0 0)) * 256)) (wrap64 (rd l0 1))) ((strOfNums t169).toList != (strOfNums y172).toList)) = some (r1, r2, r3) := by first | (rw [hy172]; with_reducible exact H) | (have H2_ := (Option.bind_some _ _).symm.trans H; rw [hy172]; with_reducible exact H2_) | (have H2_ := (Option.bind_some _ _).symm.trans H; with_reducible exact H2_) | with_reducible exact H | (rw [hy172]; exact H) | exact H
                    have Ny172 := Aside0.mk hy172
                    clear hy172
                    have H' := Aside0.mk H
                    clear H
                    try go_wp2
                    have n0_ := Aside0.mk (below_drew1 HB.out)
                    clear HB
                    have HB := n0_
                    clear n0_
                    have q17 : (2 : Int) ≤ ((l0.length : Int) : Int) := of_decide_eq_true (by first | (with_reducible assumption) | assumption)
                    obtain ⟨i017, hi017, _, hsz17, _⟩ := info_parts info5
                    have hroom17 : l0.length ≤ c0 := HC0.out
                    have hC17 : Kd.C (Kd.int .u8) _ (some ad162) l0.length l0 := HR0.out
                    have hcut17 := cut_to (P := Try.prog) 22 5 .i64 Try.underlying22 hi017 (some ad162) l0.length c0 2 (by omega) q17 hroom17
                    have hr17 := Kd.C_take (m := 2) hC17 (by omega)
                    have hy17 : y164.length = (2 : Int).toNat := (by rw [Ny164.out, List.length_take]; omega)
                    rw [← Ny164.out] at hr17
                    rw [← hy17] at hcut17
                    have HR167 := Aside0.mk hr17
                    have HC167 := Aside0.mk (show y164.length ≤ c0 from by omega)
                    clear hr17 hC17 hroom17 hi017 hsz17
                    have KY17 := Aside0.mk hy17
                    clear hy17
                    replace q17 := eq_true q17
                    have q18 : (4 : Int) ≤ ((l0.length : Int) : Int) := of_decide_eq_true (by first | (with_reducible assumption) | assumption)
                    obtain ⟨i018, hi018, _, hsz18, _⟩ := info_parts info5
                    have hroom18 : l0.length ≤ c0 := HC0.out
                    have hC18 : Kd.C (Kd.int .u8) _ (some ad162) l0.length l0 := HR0.out
                    have ql18 : (2 : Int) ≤ (4 : Int) := (by omega)
                    have hcut18 := cut_mid (P := Try.prog) 22 5 .i64 .i64 Try.underlying22 hi018 1 hsz18 (some ad162) l0.length c0 2 4 (by omega) ql18 q18 hroom18
                    have hr18 := Kd.C_mid (lo := (2 : Int).toNat) (hi := (4 : Int).toNat) (c := c0) hC18 (by omega) (by omega) hroom18
                    obtain ⟨A18, hA18⟩ : ∃ A1, A1 = (if c0 = (2 : Int).toNat then (some ad162) else ((some ad162) : Option Addr).map (·.add ((2 : Int).toNat * 1))) := ⟨_, rfl⟩
                    obtain ⟨c18, hc18⟩ : ∃ c1, c1 = c0 - (2 : Int).toNat := ⟨_, rfl⟩
                    have hy18 : y172.length = (4 : Int).toNat - (2 : Int).toNat := (by rw [Ny172.out, List.length_drop, List.length_take] <;> omega)
                    rw [show ((l0).take (4 : Int).toNat).drop (2 : Int).toNat = y172 from Ny172.out.symm] at hr18
                    replace hr18 : Kd.C (Kd.int .u8) _ A18 y172.length y172 := (by rw [hA18]; exact hr18)
                    rw [← hy18, ← hA18, ← hc18] at hcut18
                    have HR175 := Aside0.mk hr18
                    have HC175 := Aside0.mk (show y172.length ≤ c18 from by rw [hy18, hc18]; exact Nat.sub_le_sub_right (Nat.le_trans (by omega) hroom18) _)
                    clear hr18 hC18 hroom18 hi018 hsz18 hc18
                    have KY18 := Aside0.mk hy18
                    have KA18 := Aside0.mk hA18
                    clear hy18 hA18
                    replace q18 := eq_true q18
                    refine start_ (n := 17) (S := fun w' => True) (ds := []) #[false, false, false, false, false, false, false, false, false, false, false, false, false, false, false, false, false] (by kernel_rfl) rfl rfl trivial (fun hHeld => ?_); refine with_tabW tumbrelref01_Open.tab4 tumbrelref01_Open.bits4 (fun HT_ HW_ => ?_)
                    generalize w6.drew = w16 at HB HR167 HR175 hHeld ⊢
                    refine pure_ (i := 0) (N := some 19) (v := ?_) (a' := ?_) #[true, false, false, false, false, false, false, false, false, false, false, false, false, false, false, false, false] rfl rfl (any_of HT_.out (by kernel_rfl)) (fun _ _ _ h => h) (Or.inl ⟨by rfl, ?_⟩) ?_ ?_
                    rotate_left
                    · intro w'
                      go_simp
                      with_reducible rfl
                    rotate_left
                    · simp only [Act.put, List.setIfInBounds_toArray, List.set_cons_zero, List.set_cons_succ, i64_w, i32_w]
                      rfl
                    refine pure_ (i := 1) (N := some 20) (v := ?_) (a' := ?_) #[true, true, false, false, false, false, false, false, false, false, false, false, false, false, false, false, false] rfl rfl (any_of HT_.out (by kernel_rfl)) (fun _ _ _ h => h) (Or.inl ⟨by rfl, ?_⟩) ?_ ?_
                    rotate_left
                    · intro w'
                      go_simp
                      with_reducible rfl
                    rotate_left
                    · simp only [Act.put, List.setIfInBounds_toArray, List.set_cons_zero, List.set_cons_succ, i64_w, i32_w]
                      rfl
                    refine pure_ (i := 2) (N := some 21) (v := ?_) (a' := ?_) #[true, true, true, false, false, false, false, false, false, false, false, false, false, false, false, false, false] rfl rfl (any_of HT_.out (by kernel_rfl)) (fun _ _ _ h => h) (Or.inl ⟨by rfl, ?_⟩) ?_ ?_
                    rotate_left
                    · intro w'
                      go_simp
                      with_reducible rfl
                    rotate_left
                    · simp only [Act.put, List.setIfInBounds_toArray, List.set_cons_zero, List.set_cons_succ, i64_w, i32_w]
                      rfl
                    refine pure_ (i := 3) (N := some 22) (v := ?_) (a' := ?_) #[true, true, true, true, false, false, false, false, false, false, false, false, false, false, false, false, false] rfl rfl (any_of HT_.out (by kernel_rfl)) (fun _ _ _ h => h) (Or.inl ⟨by rfl, ?_⟩) ?_ ?_
                    rotate_left
                    · intro w'
                      go_simp
                      with_reducible rfl
                    rotate_left
                    · simp only [Act.put, List.setIfInBounds_toArray, List.set_cons_zero, List.set_cons_succ, i64_w, i32_w]
                      rfl
                    refine pure_ (i := 4) (N := some 23) (v := ?_) (a' := ?_) #[true, true, true, true, true, false, false, false, false, false, false, false, false, false, false, false, false] rfl rfl (any_of HT_.out (by kernel_rfl)) (fun _ _ _ h => h) (Or.inl ⟨by rfl, ?_⟩) ?_ ?_
                    rotate_left
                    · intro w'
                      go_simp
                      with_reducible rfl
                    rotate_left
                    · simp only [Act.put, List.setIfInBounds_toArray, List.set_cons_zero, List.set_cons_succ, i64_w, i32_w]
                      rfl
                    refine pure_ (i := 5) (N := some 24) (v := ?_) (a' := ?_) #[true, true, true, true, true, true, false, false, false, false, false, false, false, false, false, false, false] rfl rfl (any_of HT_.out (by kernel_rfl)) (fun _ _ _ h => h) (Or.inl ⟨by rfl, ?_⟩) ?_ ?_
                    rotate_left
                    · intro w'
                      go_simp
                      with_reducible rfl
                    rotate_left
                    · simp only [Act.put, List.setIfInBounds_toArray, List.set_cons_zero, List.set_cons_succ, i64_w, i32_w]
                      rfl
                    refine pure_ (i := 6) (N := some 25) (v := ?_) (a' := ?_) #[true, true, true, true, true, true, true, false, false, false, false, false, false, false, false, false, false] rfl rfl (any_of HT_.out (by kernel_rfl)) (fun _ _ _ h => h) (Or.inl ⟨by rfl, ?_⟩) ?_ ?_
                    rotate_left
                    · intro w'
                      go_simp
                      with_reducible rfl
                    rotate_left
                    · simp only [Act.put, List.setIfInBounds_toArray, List.set_cons_zero, List.set_cons_succ, i64_w, i32_w]
                      rfl
                    refine pure_ (i := 7) (N := some 26) (v := ?_) (a' := ?_) #[true, true, true, true, true, true, true, true, false, false, false, false, false, false, false, false, false] rfl rfl (any_of HT_.out (by kernel_rfl)) (fun _ _ _ h => h) (Or.inl ⟨by rfl, ?_⟩) ?_ ?_
                    rotate_left
                    · intro w'
                      go_simp
                      with_reducible rfl
                    rotate_left
                    · simp only [Act.put, List.setIfInBounds_toArray, List.set_cons_zero, List.set_cons_succ, i64_w, i32_w]
                      rfl
                    refine pure_ (i := 8) (N := some 27) (v := ?_) (a' := ?_) #[true, true, true, true, true, true, true, true, true, false, false, false, false, false, false, false, false] rfl rfl (any_of HT_.out (by kernel_rfl)) (fun _ _ _ h => h) (Or.inl ⟨by rfl, ?_⟩) ?_ ?_
                    rotate_left
                    · intro w'
                      go_simp
                      with_reducible rfl
                    rotate_left
                    · simp only [Act.put, List.setIfInBounds_toArray, List.set_cons_zero, List.set_cons_succ, i64_w, i32_w]
                      rfl
                    refine pure_ (i := 12) (N := some 31) (v := ?_) (a' := ?_) #[true, true, true, true, true, true, true, true, true, false, false, false, true, false, false, false, false] rfl rfl (any_of HT_.out (by kernel_rfl)) (fun _ _ _ h => h) (Or.inl ⟨by rfl, ?_⟩) ?_ ?_
                    rotate_left
                    · intro w'
                      go_simp
                      with_reducible rfl
                    rotate_left
                    · simp only [Act.put, List.setIfInBounds_toArray, List.set_cons_zero, List.set_cons_succ, i64_w, i32_w]
                      rfl
                    refine pure_ (i := 13) (N := some 32) (v := ?_) (a' := ?_) #[true, true, true, true, true, true, true, true, true, false, false, false, true, true, false, false, false] rfl rfl (any_of HT_.out (by kernel_rfl)) (fun _ _ _ h => h) (Or.inl ⟨by rfl, ?_⟩) ?_ ?_
                    rotate_left
                    · intro w'
                      go_simp
                      with_reducible rfl
                    rotate_left
                    · simp only [Act.put, List.setIfInBounds_toArray, List.set_cons_zero, List.set_cons_succ, i64_w, i32_w]
                      rfl
                    refine join_ (σ := Value) 2 #[true, true, true, true, true, true, true, true, true, true, true, true, true, true, true, false, false] (fun s_ => [(28, .int .u16 t168), (29, s_), (30, .string (strOfNums t169)), (33, .string (strOfNums y172))]) (fun s_ w' => (Kd.R (Kd.int .u8) 5 w' w.heap.size (fun _ => True) s_ t169) ∧ (Below w.heap.size w w')) ?_ ?_
                    rotate_left
                    · intro hCont
                      refine two_ (i := 9) (j := 14) (Ni := some 28) (Nj := some 33) #[true, true, true, true, true, true, true, true, true, true, false, false, true, true, false, false, false] #[true, true, true, true, true, true, true, true, true, false, false, false, true, true, true, false, false] rfl rfl rfl rfl (two_of HT_.out (by kernel_rfl)) (by decide) (by decide) (fun K hK => ?_) (fun K hK => ?_)
                      · skip
                        refine goes_ Try.func16 (by kernel_rfl) rfl #[.slice (some ad162) y164.length c0] (by rfl) rfl rfl (by (try simp only [List.map_toArray, List.map_cons, List.map_nil]); first | done | rfl | (simp only [List.length_drop, List.length_take]; rfl)) ?_
                        with_reducible refine (tumbrelref01_Sum.calls k _ _ y164 t168 _ ?side1 ?side2 A12.out).mono ?_
                        (case side1 => repeat (first | exact (Kd.C_below HR167.out HB.out) | (with_reducible refine Kd.C_alloc ?_ _) | (with_reducible refine Kd.C_drewN ?_ _) | (with_reducible refine Kd.C_drew ?_)))
                        (case side2 => exact HC167.out)
                        rintro e w' ⟨rfl, ⟨nd, rfl⟩⟩
                        refine ⟨_, rfl, ?_⟩
                        refine hK.out _ _ trivial (fun hHeld => ?_)
                        clear hK K
                        refine norm_ (a' := ?_) ?_ ?_
                        rotate_left
                        · show Act.put _ (some 28) _ = _
                          simp only [Act.put, List.setIfInBounds_toArray, List.set_cons_zero, List.set_cons_succ, i64_w, i32_w]
                          rfl
                        refine two_ (i := 10) (j := 14) (Ni := some 29) (Nj := some 33) #[true, true, true, true, true, true, true, true, true, true, true, false, true, true, false, false, false] #[true, true, true, true, true, true, true, true, true, true, false, false, true, true, true, false, false] rfl rfl rfl rfl (two_of HT_.out (by kernel_rfl)) (by decide) (by decide) (fun K hK => ?_) (fun K hK => ?_)
                        · skip
                          refine goes_ Try.func37 (by kernel_rfl) rfl #[.int .u16 t168] (by rfl) rfl rfl (by (try simp only [List.map_toArray, List.map_cons, List.map_nil]); first | done | rfl | (simp only [List.length_drop, List.length_take]; rfl)) ?_
                          with_reducible refine (tumbrelref01_two.calls t168 t169 _ A13.out).mono ?_
                          rintro e w19 ⟨v170, rfl, ho0, hb⟩
                          refine ⟨_, rfl, ?_⟩
                          have n0_ := Aside0.mk (Kd.R_lower ho0 (below_size (by repeat (first | (with_reducible first | exact HB.out | apply below_alloc | apply pw_below_drewN | apply below_drew1) | exact HB.out))))
                          have n1_ := Aside0.mk (below_step (by repeat (first | (with_reducible first | exact HB.out | apply below_alloc | apply pw_below_drewN | apply below_drew1) | exact HB.out)) hb)
                          clear HB
                          have HO171 := n0_
                          have HB := n1_
                          clear n0_ n1_
                          (try clear hb)
                          (try clear hb2)
                          (try clear hk)
                          (try clear hi)
                          (try clear ho0)
                          refine hK.out _ _ trivial (fun hHeld => ?_)
                          clear hK K
                          refine norm_ (a' := ?_) ?_ ?_
                          rotate_left
                          · show Act.put _ (some 29) _ = _
                            simp only [Act.put, List.setIfInBounds_toArray, List.set_cons_zero, List.set_cons_succ, i64_w, i32_w]
                            rfl
                          refine two_ (i := 11) (j := 14) (Ni := some 30) (Nj := some 33) #[true, true, true, true, true, true, true, true, true, true, true, true, true, true, false, false, false] #[true, true, true, true, true, true, true, true, true, true, true, false, true, true, true, false, false] rfl rfl rfl rfl (two_of HT_.out (by kernel_rfl)) (by decide) (by decide) (fun K hK => ?_) (fun K hK => ?_)
                          · skip
                            have hcv20 := own_string (P := Try.prog) Try.underlying22 Try.underlying5 Try.underlying9 (Kd.own_of_R HO171.out)
                            refine value_ (w1 := ?_) (v := ?_) (by rfl) rfl ?_ ?_
                            rotate_left 2
                            · go_simp
                              constructor
                              · rfl
                              · rfl
                            clear hcv20
                            refine hK.out _ _ trivial (fun hHeld => ?_)
                            clear hK K
                            refine norm_ (a' := ?_) ?_ ?_
                            rotate_left
                            · show Act.put _ (some 30) _ = _
                              simp only [Act.put, List.setIfInBounds_toArray, List.set_cons_zero, List.set_cons_succ, i64_w, i32_w]
                              rfl
                            refine one_ (i := 14) (N := some 33) #[true, true, true, true, true, true, true, true, true, true, true, true, true, true, true, false, false] rfl rfl (one_of HT_.out (by kernel_rfl)) (by decide) (fun K hK => ?_)
                            have hcv21 := Kd.C_string (P := Try.prog) (A := A18) (c := c18) Try.underlying22 Try.underlying5 Try.underlying9 (Kd.C_below HR175.out HB.out); have hcv21d := fun m_ => Kd.C_string (P := Try.prog) (A := A18) (c := c18) Try.underlying22 Try.underlying5 Try.underlying9 (Kd.C_drewN ((Kd.C_below HR175.out HB.out)) m_)
                            refine value_ (w1 := ?_) (v := ?_) (by rfl) rfl ?_ ?_
                            rotate_left 2
                            · go_simp
                              constructor
                              · rfl
                              · rfl
                            clear hcv21 hcv21d
                            refine hK.out _ _ trivial (fun hHeld => ?_)
                            clear hK K
                            refine norm_ (a' := ?_) ?_ ?_
                            rotate_left
                            · show Act.put _ (some 33) _ = _
                              simp only [Act.put, List.setIfInBounds_toArray, List.set_cons_zero, List.set_cons_succ, i64_w, i32_w]
                              rfl
                            exact norm_ (by simp only [putAll, Act.put, List.setIfInBounds_toArray, List.set_cons_zero, List.set_cons_succ]) (hCont (v170) _ ⟨(by (with_reducible repeat (first | apply Kd.R_alloc | apply Kd.R_drewN | apply Kd.R_drew)); exact HO171.out), (by repeat (first | (with_reducible first | exact HB.out | apply below_alloc | apply pw_below_drewN | apply below_drew1) | exact HB.out))⟩)
                          · skip
                            have hcv20 := Kd.C_string (P := Try.prog) (A := A18) (c := c18) Try.underlying22 Try.underlying5 Try.underlying9 (Kd.C_below HR175.out HB.out); have hcv20d := fun m_ => Kd.C_string (P := Try.prog) (A := A18) (c := c18) Try.underlying22 Try.underlying5 Try.underlying9 (Kd.C_drewN ((Kd.C_below HR175.out HB.out)) m_)
                            refine value_ (w1 := ?_) (v := ?_) (by rfl) rfl ?_ ?_
                            rotate_left 2
                            · go_simp
                              constructor
                              · rfl
                              · rfl
                            clear hcv20 hcv20d
                            refine hK.out _ _ trivial (fun hHeld => ?_)
                            clear hK K
                            refine norm_ (a' := ?_) ?_ ?_
                            rotate_left
                            · show Act.put _ (some 33) _ = _
                              simp only [Act.put, List.setIfInBounds_toArray, List.set_cons_zero, List.set_cons_succ, i64_w, i32_w]
                              rfl
                            refine one_ (i := 11) (N := some 30) #[true, true, true, true, true, true, true, true, true, true, true, true, true, true, true, false, false] rfl rfl (one_of HT_.out (by kernel_rfl)) (by decide) (fun K hK => ?_)
                            have hcv21 := own_string (P := Try.prog) Try.underlying22 Try.underlying5 Try.underlying9 (Kd.own_of_R HO171.out)
                            refine value_ (w1 := ?_) (v := ?_) (by rfl) rfl ?_ ?_
                            rotate_left 2
                            · go_simp
                              constructor
                              · rfl
                              · rfl
                            clear hcv21
                            refine hK.out _ _ trivial (fun hHeld => ?_)
                            clear hK K
                            refine norm_ (a' := ?_) ?_ ?_
                            rotate_left
                            · show Act.put _ (some 30) _ = _
                              simp only [Act.put, List.setIfInBounds_toArray, List.set_cons_zero, List.set_cons_succ, i64_w, i32_w]
                              rfl
                            exact norm_ (by simp only [putAll, Act.put, List.setIfInBounds_toArray, List.set_cons_zero, List.set_cons_succ]) (hCont (v170) _ ⟨(by (with_reducible repeat (first | apply Kd.R_alloc | apply Kd.R_drewN | apply Kd.R_drew)); exact HO171.out), (by repeat (first | (with_reducible first | exact HB.out | apply below_alloc | apply pw_below_drewN | apply below_drew1) | exact HB.out))⟩)
                        · skip
                          have hcv19 := Kd.C_string (P := Try.prog) (A := A18) (c := c18) Try.underlying22 Try.underlying5 Try.underlying9 (Kd.C_below HR175.out HB.out); have hcv19d := fun m_ => Kd.C_string (P := Try.prog) (A := A18) (c := c18) Try.underlying22 Try.underlying5 Try.underlying9 (Kd.C_drewN ((Kd.C_below HR175.out HB.out)) m_)
                          refine value_ (w1 := ?_) (v := ?_) (by rfl) rfl ?_ ?_
                          rotate_left 2
                          · go_simp
                            constructor
                            · rfl
                            · rfl
                          clear hcv19 hcv19d
                          refine hK.out _ _ trivial (fun hHeld => ?_)
                          clear hK K
                          refine norm_ (a' := ?_) ?_ ?_
                          rotate_left
                          · show Act.put _ (some 33) _ = _
                            simp only [Act.put, List.setIfInBounds_toArray, List.set_cons_zero, List.set_cons_succ, i64_w, i32_w]
                            rfl
                          refine one_ (i := 10) (N := some 29) #[true, true, true, true, true, true, true, true, true, true, true, false, true, true, true, false, false] rfl rfl (one_of HT_.out (by kernel_rfl)) (by decide) (fun K hK => ?_)
                          refine goes_ Try.func37 (by kernel_rfl) rfl #[.int .u16 t168] (by rfl) rfl rfl (by (try simp only [List.map_toArray, List.map_cons, List.map_nil]); first | done | rfl | (simp only [List.length_drop, List.length_take]; rfl)) ?_
                          with_reducible refine (tumbrelref01_two.calls t168 t169 _ A13.out).mono ?_
                          rintro e w20 ⟨v170, rfl, ho0, hb⟩
                          refine ⟨_, rfl, ?_⟩
                          have n0_ := Aside0.mk (Kd.R_lower ho0 (below_size (by repeat (first | (with_reducible first | exact HB.out | apply below_alloc | apply pw_below_drewN | apply below_drew1) | exact HB.out))))
                          have n1_ := Aside0.mk (below_step (by repeat (first | (with_reducible first | exact HB.out | apply below_alloc | apply pw_below_drewN | apply below_drew1) | exact HB.out)) hb)
                          clear HB
                          have HO171 := n0_
                          have HB := n1_
                          clear n0_ n1_
                          (try clear hb)
                          (try clear hb2)
                          (try clear hk)
                          (try clear hi)
                          (try clear ho0)
                          refine hK.out _ _ trivial (fun hHeld => ?_)
                          clear hK K
                          refine norm_ (a' := ?_) ?_ ?_
                          rotate_left
                          · show Act.put _ (some 29) _ = _
                            simp only [Act.put, List.setIfInBounds_toArray, List.set_cons_zero, List.set_cons_succ, i64_w, i32_w]
                            rfl
                          refine one_ (i := 11) (N := some 30) #[true, true, true, true, true, true, true, true, true, true, true, true, true, true, true, false, false] rfl rfl (one_of HT_.out (by kernel_rfl)) (by decide) (fun K hK => ?_)
                          have hcv21 := own_string (P := Try.prog) Try.underlying22 Try.underlying5 Try.underlying9 (Kd.own_of_R HO171.out)
                          refine value_ (w1 := ?_) (v := ?_) (by rfl) rfl ?_ ?_
                          rotate_left 2
                          · go_simp
                            constructor
                            · rfl
                            · rfl
                          clear hcv21
                          refine hK.out _ _ trivial (fun hHeld => ?_)
                          clear hK K
                          refine norm_ (a' := ?_) ?_ ?_
                          rotate_left
                          · show Act.put _ (some 30) _ = _
                            simp only [Act.put, List.setIfInBounds_toArray, List.set_cons_zero, List.set_cons_succ, i64_w, i32_w]
                            rfl
                          exact norm_ (by simp only [putAll, Act.put, List.setIfInBounds_toArray, List.set_cons_zero, List.set_cons_succ]) (hCont (v170) _ ⟨(by (with_reducible repeat (first | apply Kd.R_alloc | apply Kd.R_drewN | apply Kd.R_drew)); exact HO171.out), (by repeat (first | (with_reducible first | exact HB.out | apply below_alloc | apply pw_below_drewN | apply below_drew1) | exact HB.out))⟩)
                      · skip
                        have hcv19 := Kd.C_string (P := Try.prog) (A := A18) (c := c18) Try.underlying22 Try.underlying5 Try.underlying9 (Kd.C_below HR175.out HB.out); have hcv19d := fun m_ => Kd.C_string (P := Try.prog) (A := A18) (c := c18) Try.underlying22 Try.underlying5 Try.underlying9 (Kd.C_drewN ((Kd.C_below HR175.out HB.out)) m_)
                        refine value_ (w1 := ?_) (v := ?_) (by rfl) rfl ?_ ?_
                        rotate_left 2
                        · go_simp
                          constructor
                          · rfl
                          · rfl
                        clear hcv19 hcv19d
                        refine hK.out _ _ trivial (fun hHeld => ?_)
                        clear hK K
                        refine norm_ (a' := ?_) ?_ ?_
                        rotate_left
                        · show Act.put _ (some 33) _ = _
                          simp only [Act.put, List.setIfInBounds_toArray, List.set_cons_zero, List.set_cons_succ, i64_w, i32_w]
                          rfl
                        refine one_ (i := 9) (N := some 28) #[true, true, true, true, true, true, true, true, true, true, false, false, true, true, true, false, false] rfl rfl (one_of HT_.out (by kernel_rfl)) (by decide) (fun K hK => ?_)
                        refine goes_ Try.func16 (by kernel_rfl) rfl #[.slice (some ad162) y164.length c0] (by rfl) rfl rfl (by (try simp only [List.map_toArray, List.map_cons, List.map_nil]); first | done | rfl | (simp only [List.length_drop, List.length_take]; rfl)) ?_
                        with_reducible refine (tumbrelref01_Sum.calls k _ _ y164 t168 _ ?side1 ?side2 A12.out).mono ?_
                        (case side1 => repeat (first | exact (Kd.C_below HR167.out HB.out) | (with_reducible refine Kd.C_alloc ?_ _) | (with_reducible refine Kd.C_drewN ?_ _) | (with_reducible refine Kd.C_drew ?_)))
                        (case side2 => exact HC167.out)
                        rintro e w' ⟨rfl, ⟨nd, rfl⟩⟩
                        refine ⟨_, rfl, ?_⟩
                        refine hK.out _ _ trivial (fun hHeld => ?_)
                        clear hK K
                        refine norm_ (a' := ?_) ?_ ?_
                        rotate_left
                        · show Act.put _ (some 28) _ = _
                          simp only [Act.put, List.setIfInBounds_toArray, List.set_cons_zero, List.set_cons_succ, i64_w, i32_w]
                          rfl
                        refine one_ (i := 10) (N := some 29) #[true, true, true, true, true, true, true, true, true, true, true, false, true, true, true, false, false] rfl rfl (one_of HT_.out (by kernel_rfl)) (by decide) (fun K hK => ?_)
                        refine goes_ Try.func37 (by kernel_rfl) rfl #[.int .u16 t168] (by rfl) rfl rfl (by (try simp only [List.map_toArray, List.map_cons, List.map_nil]); first | done | rfl | (simp only [List.length_drop, List.length_take]; rfl)) ?_
                        with_reducible refine (tumbrelref01_two.calls t168 t169 _ A13.out).mono ?_
                        rintro e w20 ⟨v170, rfl, ho0, hb⟩
                        refine ⟨_, rfl, ?_⟩
                        have n0_ := Aside0.mk (Kd.R_lower ho0 (below_size (by repeat (first | (with_reducible first | exact HB.out | apply below_alloc | apply pw_below_drewN | apply below_drew1) | exact HB.out))))
                        have n1_ := Aside0.mk (below_step (by repeat (first | (with_reducible first | exact HB.out | apply below_alloc | apply pw_below_drewN | apply below_drew1) | exact HB.out)) hb)
                        clear HB
                        have HO171 := n0_
                        have HB := n1_
                        clear n0_ n1_
                        (try clear hb)
                        (try clear hb2)
                        (try clear hk)
                        (try clear hi)
                        (try clear ho0)
                        refine hK.out _ _ trivial (fun hHeld => ?_)
                        clear hK K
                        refine norm_ (a' := ?_) ?_ ?_
                        rotate_left
                        · show Act.put _ (some 29) _ = _
                          simp only [Act.put, List.setIfInBounds_toArray, List.set_cons_zero, List.set_cons_succ, i64_w, i32_w]
                          rfl
                        refine one_ (i := 11) (N := some 30) #[true, true, true, true, true, true, true, true, true, true, true, true, true, true, true, false, false] rfl rfl (one_of HT_.out (by kernel_rfl)) (by decide) (fun K hK => ?_)
                        have hcv21 := own_string (P := Try.prog) Try.underlying22 Try.underlying5 Try.underlying9 (Kd.own_of_R HO171.out)
                        refine value_ (w1 := ?_) (v := ?_) (by rfl) rfl ?_ ?_
                        rotate_left 2
                        · go_simp
                          constructor
                          · rfl
                          · rfl
                        clear hcv21
                        refine hK.out _ _ trivial (fun hHeld => ?_)
                        clear hK K
                        refine norm_ (a' := ?_) ?_ ?_
                        rotate_left
                        · show Act.put _ (some 30) _ = _
                          simp only [Act.put, List.setIfInBounds_toArray, List.set_cons_zero, List.set_cons_succ, i64_w, i32_w]
                          rfl
                        exact norm_ (by simp only [putAll, Act.put, List.setIfInBounds_toArray, List.set_cons_zero, List.set_cons_succ]) (hCont (v170) _ ⟨(by (with_reducible repeat (first | apply Kd.R_alloc | apply Kd.R_drewN | apply Kd.R_drew)); exact HO171.out), (by repeat (first | (with_reducible first | exact HB.out | apply below_alloc | apply pw_below_drewN | apply below_drew1) | exact HB.out))⟩)
                    rintro v170 w22 ⟨h0_, h1_⟩
                    have n0_ : Aside0 (Kd.R (Kd.int .u8) 5 w22 w.heap.size (fun _ => True) v170 t169) := ⟨h0_⟩
                    have n1_ : Aside0 (Below w.heap.size w w22) := ⟨h1_⟩
                    clear HB
                    clear h0_ h1_
                    have HO171 := n0_
                    have HB := n1_
                    clear n0_ n1_
                    have hHeld := trivial
                    refine norm_ (a' := ?_) ?_ ?_
                    rotate_left
                    · simp only [putAll, Act.put, List.setIfInBounds_toArray, List.set_cons_zero, List.set_cons_succ]
                      rfl
                    refine pure_ (i := 15) (N := some 34) (v := ?_) (a' := ?_) #[true, true, true, true, true, true, true, true, true, true, true, true, true, true, true, true, false] rfl rfl (any_of HT_.out (by kernel_rfl)) (fun _ _ _ h => h) (Or.inl ⟨by rfl, ?_⟩) ?_ ?_
                    rotate_left
                    · intro w'
                      go_simp
                      with_reducible rfl
                    rotate_left
                    · simp only [Act.put, List.setIfInBounds_toArray, List.set_cons_zero, List.set_cons_succ, i64_w, i32_w]
                      rfl
                    refine pure_ (i := 16) (N := some 35) (v := ?_) (a' := ?_) #[true, true, true, true, true, true, true, true, true, true, true, true, true, true, true, true, true] rfl rfl (any_of HT_.out (by kernel_rfl)) (fun _ _ _ h => h) (Or.inl ⟨by rfl, ?_⟩) ?_ ?_
                    rotate_left
                    · intro w'
                      go_simp
                      with_reducible rfl
                    rotate_left
                    · simp only [Act.put, List.setIfInBounds_toArray, List.set_cons_zero, List.set_cons_succ, i64_w, i32_w]
                      rfl
                    refine done_ (done_of HT_.out (by kernel_rfl)) ?_
                    try go_wp2
                    go_meet
                    case rel => exact ⟨_, (((strOfNums t169).toList != (strOfNums y172).toList)), (by first | rfl | (simp; done) | (simp [*]; done)), H', ⟨by first | omega | exact Nat.le_refl _⟩, ⟨by repeat (first | (with_reducible first | exact HB.out | apply below_alloc | apply pw_below_drewN | apply below_drew1) | exact HB.out)⟩⟩
                  · rw [if_neg c15] at H
                    exact absurd H (by simp)
                · rw [if_neg c14] at H
                  exact absurd H (by simp)
              · rw [if_neg c11] at H
                exact absurd H (by simp)
        case rest =>
          clear HC5
          try clear c1
          try clear q1
          try clear hcv1
          try clear p2
          try clear hcv2
          try clear c3
          try clear p6
          try clear c7
          try clear c7b0
          try clear c9
          try clear c9b0
          try clear c11
          try clear c11b0
          try clear c11b1
          try clear c14
          try clear c14b0
          try clear c14b1
          try clear c15
          try clear c15b0
          try clear c15b1
          try clear c16
          try clear q17
          try clear c18
          try clear q18
          try clear hcv19
          try clear hcv20
          try clear hcv21
          try clear q17
          try clear q18
          obtain ⟨kq, x35_4, rfl, HA, HJ4, HB⟩ := hcut
          cases kq with
          | zero => exact absurd HA.out (by simp [tumbrelref01_Open.j0])
          | succ kj4 =>
            have H := HA.out
            clear HA
            simp only [tumbrelref01_Open.j0] at H
            by_cases c23 : x35_4 = true
            · subst c23
              have H1 : (some (([] : List Int), 0, 9)) = some (r1, r2, r3) := by rw [if_pos rfl] at H; exact H
              clear H
              have H := H1
              clear H1
              simp only [Option.some.injEq, Prod.mk.injEq] at H
              obtain ⟨rfl, rfl, rfl⟩ := H
              go_wp2
              go_ret3
              exact ⟨_, by first | rfl | (simp [errW_none, errW_some] <;> rfl) | (simp [*, errW_none, errW_some] <;> rfl), by first | exact Kd.R_nil _ _ _ _ _ | exact Kd.N_nil _ _ _ _ _ | exact Kd.V_nil _ _ _ _ _ | exact Kd.Q_nil _ _ _ _ _ | exact Kd.S_nil _ _ _ _ _, by repeat (first | (with_reducible first | exact HB.out | apply below_alloc | apply pw_below_drewN | apply below_drew1) | exact HB.out)⟩
            · replace c23 := Bool.eq_false_iff.mpr c23
              subst c23
              have H1 : (if (l0.length : Int) < (wrap64 (6 + (Go.bits .or .i64 (wrap64 ((wrap64 (rd l0 0)) * 256)) (wrap64 (rd l0 1))))) then (some (([] : List Int), 0, 5)) else (if 0 ≤ (wrap64 (4 + (Go.bits .or .i64 (wrap64 ((wrap64 (rd l0 0)) * 256)) (wrap64 (rd l0 1))))) then (if (wrap64 (4 + (Go.bits .or .i64 (wrap64 ((wrap64 (rd l0 0)) * 256)) (wrap64 (rd l0 1))))) ≤ (l0.length : Int) then ((tumbrelref01_Sum.f kj4 (l0.take ((wrap64 (4 + (Go.bits .or .i64 (wrap64 ((wrap64 (rd l0 0)) * 256)) (wrap64 (rd l0 1))))) : Int).toNat)).bind fun t180 => ((tumbrelref01_two.f t180).bind fun t181 => (if (wrap64 (4 + (Go.bits .or .i64 (wrap64 ((wrap64 (rd l0 0)) * 256)) (wrap64 (rd l0 1))))) ≤ (wrap64 (6 + (Go.bits .or .i64 (wrap64 ((wrap64 (rd l0 0)) * 256)) (wrap64 (rd l0 1))))) then (if (wrap64 (6 + (Go.bits .or .i64 (wrap64 ((wrap64 (rd l0 0)) * 256)) (wrap64 (rd l0 1))))) ≤ (l0.length : Int) then (if (strOfNums t181).toList = (strOfNums ((l0.take ((wrap64 (6 + (Go.bits .or .i64 (wrap64 ((wrap64 (rd l0 0)) * 256)) (wrap64 (rd l0 1))))) : Int).toNat).drop ((wrap64 (4 + (Go.bits .or .i64 (wrap64 ((wrap64 (rd l0 0)) * 256)) (wrap64 (rd l0 1))))) : Int).toNat)).toList then ((some (([] : List Int) : List Int)).bind fun y188 => (if 4 ≤ (wrap64 (4 + (Go.bits .or .i64 (wrap64 ((wrap64 (rd l0 0)) * 256)) (wrap64 (rd l0 1))))) then ((some ((l0.take ((wrap64 (4 + (Go.bits .or .i64 (wrap64 ((wrap64 (rd l0 0)) * 256)) (wrap64 (rd l0 1))))) : Int).toNat).drop 4 : List Int)).bind fun y191 => (if y188.length + y191.length < 140737488355328 then (some ((y188 ++ y191), wrap64 (6 + (Go.bits .or .i64 (wrap64 ((wrap64 (rd l0 0)) * 256)) (wrap64 (rd l0 1)))), 0)) else (none))) else (none))) else (some (([] : List Int), 0, 9))) else (none)) else (none)))) else (none)) else (none))) = some (r1, r2, r3) := by rw [if_neg (show ¬ (false = true) by decide)] at H; exact H
              clear H
              have H := H1
              clear H1
              by_cases c24 : (l0.length : Int) < (wrap64 (6 + (Go.bits .or .i64 (wrap64 ((wrap64 (rd l0 0)) * 256)) (wrap64 (rd l0 1)))))
              · rw [if_pos c24] at H
                have c24b0 : decide ((l0.length : Int) < (wrap64 (6 + (Go.bits .or .i64 (wrap64 ((wrap64 (rd l0 0)) * 256)) (wrap64 (rd l0 1)))))) = true := decide_eq_true c24
                clear c24
                simp only [Option.some.injEq, Prod.mk.injEq] at H
                obtain ⟨rfl, rfl, rfl⟩ := H
                go_wp2
                go_ret3
                exact ⟨_, by first | rfl | (simp [errW_none, errW_some] <;> rfl) | (simp [*, errW_none, errW_some] <;> rfl), by first | exact Kd.R_nil _ _ _ _ _ | exact Kd.N_nil _ _ _ _ _ | exact Kd.V_nil _ _ _ _ _ | exact Kd.Q_nil _ _ _ _ _ | exact Kd.S_nil _ _ _ _ _, by repeat (first | (with_reducible first | exact HB.out | apply below_alloc | apply pw_below_drewN | apply below_drew1) | exact HB.out)⟩
              · rw [if_neg c24] at H
                have c24b0 : decide ((l0.length : Int) < (wrap64 (6 + (Go.bits .or .i64 (wrap64 ((wrap64 (rd l0 0)) * 256)) (wrap64 (rd l0 1)))))) = false := decide_eq_false c24
                clear c24
                obtain ⟨ji25, hji25⟩ : ∃ j_ : Int, (wrap64 (4 + (Go.bits .or .i64 (wrap64 ((wrap64 (rd l0 0)) * 256)) (wrap64 (rd l0 1))))) = j_ := ⟨_, rfl⟩
                replace H : (if 0 ≤ (ji25) then (if (ji25) ≤ (l0.length : Int) then ((tumbrelref01_Sum.f kj4 (l0.take ((ji25) : Int).toNat)).bind fun t180 => ((tumbrelref01_two.f t180).bind fun t181 => (if (ji25) ≤ (wrap64 (6 + (Go.bits .or .i64 (wrap64 ((wrap64 (rd l0 0)) * 256)) (wrap64 (rd l0 1))))) then (if (wrap64 (6 + (Go.bits .or .i64 (wrap64 ((wrap64 (rd l0 0)) * 256)) (wrap64 (rd l0 1))))) ≤ (l0.length : Int) then (if (strOfNums t181).toList = (strOfNums ((l0.take ((wrap64 (6 + (Go.bits .or .i64 (wrap64 ((wrap64 (rd l0 0)) * 256)) (wrap64 (rd l0 1))))) : Int).toNat).drop ((ji25) : Int).toNat)).toList then ((some (([] : List Int) : List Int)).bind fun y188 => (if 4 ≤ (ji25) then ((some ((l0.take ((ji25) : Int).toNat).drop 4 : List Int)).bind fun y191 => (if y188.length + y191.length < 140737488355328 then (some ((y188 ++ y191), wrap64 (6 + (Go.bits .or .i64 (wrap64 ((wrap64 (rd l0 0)) * 256)) (wrap64 (rd l0 1)))), 0)) else (none))) else (none))) else (some (([] : List Int), 0, 9))) else (none)) else (none)))) else (none)) else (none)) = some (r1, r2, r3) := by first | (rw [hji25] at H; exact H) | (simp only [hji25] at H ⊢; exact H)
                have hji25w : (IntKind.i64.wrap (4 + (Go.bits .or .i64 (wrap64 ((wrap64 (rd l0 0)) * 256)) (wrap64 (rd l0 1))))) = ji25 := (i64_w _).trans hji25
                by_cases c26 : 0 ≤ (ji25)
                · rw [if_pos c26] at H
                  have c26b0 := eq_true c26
                  have c26b1 : decide (0 ≤ (ji25)) = true := decide_eq_true c26
                  clear c26
                  by_cases c27 : (ji25) ≤ (l0.length : Int)
                  · rw [if_pos c27] at H
                    have c27b0 := eq_true c27
                    have c27b1 : decide ((ji25) ≤ (l0.length : Int)) = true := decide_eq_true c27
                    clear c27
                    obtain ⟨y176, hy176⟩ : ∃ y_ : List Int, y_ = (l0.take ((ji25) : Int).toNat) := ⟨_, rfl⟩
                    replace H : ((tumbrelref01_Sum.f kj4 y176).bind fun t180 => ((tumbrelref01_two.f t180).bind fun t181 => (if (ji25) ≤ (wrap64 (6 + (Go.bits .or .i64 (wrap64 ((wrap64 (rd l0 0)) * 256)) (wrap64 (rd l0 1))))) then (if (wrap64 (6 + (Go.bits .or .i64 (wrap64 ((wrap64 (rd l0 0)) * 256)) (wrap64 (rd l0 1))))) ≤ (l0.length : Int) then (if (strOfNums t181).toList = (strOfNums ((l0.take ((wrap64 (6 + (Go.bits .or .i64 (wrap64 ((wrap64 (rd l0 0)) * 256)) (wrap64 (rd l0 1))))) : Int).toNat).drop ((ji25) : Int).toNat)).toList then ((some (([] : List Int) : List Int)).bind fun y188 => (if 4 ≤ (ji25) then ((some ((l0.take ((ji25) : Int).toNat).drop 4 : List Int)).bind fun y191 => (if y188.length + y191.length < 140737488355328 then (some ((y188 ++ y191), wrap64 (6 + (Go.bits .or .i64 (wrap64 ((wrap64 (rd l0 0)) * 256)) (wrap64 (rd l0 1)))), 0)) else (none))) else (none))) else (some (([] : List Int), 0, 9))) else (none)) else (none)))) = some (r1, r2, r3) := by first | (rw [hy176]; with_reducible exact H) | (have H2_ := (Option.bind_some _ _).symm.trans H; rw [hy176]; with_reducible exact H2_) | (have H2_ := (Option.bind_some _ _).symm.trans H; with_reducible exact H2_) | with_reducible exact H | (rw [hy176]; exact H) | exact H
                    have Ny176 := Aside0.mk hy176
                    clear hy176
                    replace H := Option.bind_eq_some_iff.mp H
                    obtain ⟨t180, A280, H⟩ := H
                    replace H : ((tumbrelref01_two.f t180).bind fun t181 => (if (ji25) ≤ (wrap64 (6 + (Go.bits .or .i64 (wrap64 ((wrap64 (rd l0 0)) * 256)) (wrap64 (rd l0 1))))) then (if (wrap64 (6 + (Go.bits .or .i64 (wrap64 ((wrap64 (rd l0 0)) * 256)) (wrap64 (rd l0 1))))) ≤ (l0.length : Int) then (if (strOfNums t181).toList = (strOfNums ((l0.take ((wrap64 (6 + (Go.bits .or .i64 (wrap64 ((wrap64 (rd l0 0)) * 256)) (wrap64 (rd l0 1))))) : Int).toNat).drop ((ji25) : Int).toNat)).toList then ((some (([] : List Int) : List Int)).bind fun y188 => (if 4 ≤ (ji25) then ((some ((l0.take ((ji25) : Int).toNat).drop 4 : List Int)).bind fun y191 => (if y188.length + y191.length < 140737488355328 then (some ((y188 ++ y191), wrap64 (6 + (Go.bits .or .i64 (wrap64 ((wrap64 (rd l0 0)) * 256)) (wrap64 (rd l0 1)))), 0)) else (none))) else (none))) else (some (([] : List Int), 0, 9))) else (none)) else (none))) = some (r1, r2, r3) := H
                    have A28 := Aside0.mk A280
                    clear A280
                    replace H := Option.bind_eq_some_iff.mp H
                    obtain ⟨t181, A290, H⟩ := H
                    replace H : (if (ji25) ≤ (wrap64 (6 + (Go.bits .or .i64 (wrap64 ((wrap64 (rd l0 0)) * 256)) (wrap64 (rd l0 1))))) then (if (wrap64 (6 + (Go.bits .or .i64 (wrap64 ((wrap64 (rd l0 0)) * 256)) (wrap64 (rd l0 1))))) ≤ (l0.length : Int) then (if (strOfNums t181).toList = (strOfNums ((l0.take ((wrap64 (6 + (Go.bits .or .i64 (wrap64 ((wrap64 (rd l0 0)) * 256)) (wrap64 (rd l0 1))))) : Int).toNat).drop ((ji25) : Int).toNat)).toList then ((some (([] : List Int) : List Int)).bind fun y188 => (if 4 ≤ (ji25) then ((some ((l0.take ((ji25) : Int).toNat).drop 4 : List Int)).bind fun y191 => (if y188.length + y191.length < 140737488355328 then (some ((y188 ++ y191), wrap64 (6 + (Go.bits .or .i64 (wrap64 ((wrap64 (rd l0 0)) * 256)) (wrap64 (rd l0 1)))), 0)) else (none))) else (none))) else (some (([] : List Int), 0, 9))) else (none)) else (none)) = some (r1, r2, r3) := H
                    have A29 := Aside0.mk A290
                    clear A290
                    have c30b0 := eq_true (of_decide_eq_true (by first | (with_reducible assumption) | assumption) : 0 ≤ (ji25))
                    by_cases c31 : (ji25) ≤ (wrap64 (6 + (Go.bits .or .i64 (wrap64 ((wrap64 (rd l0 0)) * 256)) (wrap64 (rd l0 1)))))
                    · rw [if_pos c31] at H
                      have c31b0 := eq_true c31
                      have c31b1 : decide ((ji25) ≤ (wrap64 (6 + (Go.bits .or .i64 (wrap64 ((wrap64 (rd l0 0)) * 256)) (wrap64 (rd l0 1)))))) = true := decide_eq_true c31
                      by_cases c32 : (wrap64 (6 + (Go.bits .or .i64 (wrap64 ((wrap64 (rd l0 0)) * 256)) (wrap64 (rd l0 1))))) ≤ (l0.length : Int)
                      · rw [if_pos c32] at H
                        have c32b0 := eq_true c32
                        have c32b1 : decide ((wrap64 (6 + (Go.bits .or .i64 (wrap64 ((wrap64 (rd l0 0)) * 256)) (wrap64 (rd l0 1))))) ≤ (l0.length : Int)) = true := decide_eq_true c32
                        obtain ⟨y184, hy184⟩ : ∃ y_ : List Int, y_ = ((l0.take ((wrap64 (6 + (Go.bits .or .i64 (wrap64 ((wrap64 (rd l0 0)) * 256)) (wrap64 (rd l0 1))))) : Int).toNat).drop ((ji25) : Int).toNat) := ⟨_, rfl⟩
                        replace H : (if (strOfNums t181).toList = (strOfNums y184).toList then ((some (([] : List Int) : List Int)).bind fun y188 => (if 4 ≤ (ji25) then ((some ((l0.take ((ji25) : Int).toNat).drop 4 : List Int)).bind fun y191 => (if y188.length + y191.length < 140737488355328 then (some ((y188 ++ y191), wrap64 (6 + (Go.bits .or .i64 (wrap64 ((wrap64 (rd l0 0)) * 256)) (wrap64 (rd l0 1)))), 0)) else (none))) else (none))) else (some (([] : List Int), 0, 9))) = some (r1, r2, r3) := by first | (rw [hy184]; with_reducible exact H) | (have H2_ := (Option.bind_some _ _).symm.trans H; rw [hy184]; with_reducible exact H2_) | (have H2_ := (Option.bind_some _ _).symm.trans H; with_reducible exact H2_) | with_reducible exact H | (rw [hy184]; exact H) | exact H
                        have Ny184 := Aside0.mk hy184
                        clear hy184
                        by_cases c33 : (strOfNums t181).toList = (strOfNums y184).toList
                        · rw [if_pos c33] at H
                          have c33b0 : ((strOfNums t181).toList == (strOfNums y184).toList) = true := beq_iff_eq.mpr c33
                          have c33b1 : ((strOfNums t181).toList != (strOfNums y184).toList) = false := bne_eq_false_iff_eq.mpr c33
                          clear c33
                          obtain ⟨y188, hy188⟩ : ∃ y_ : List Int, y_ = (([] : List Int)) := ⟨_, rfl⟩
                          replace H : (if 4 ≤ (ji25) then ((some ((l0.take ((ji25) : Int).toNat).drop 4 : List Int)).bind fun y191 => (if y188.length + y191.length < 140737488355328 then (some ((y188 ++ y191), wrap64 (6 + (Go.bits .or .i64 (wrap64 ((wrap64 (rd l0 0)) * 256)) (wrap64 (rd l0 1)))), 0)) else (none))) else (none)) = some (r1, r2, r3) := by first | (rw [hy188]; with_reducible exact H) | (have H2_ := (Option.bind_some _ _).symm.trans H; rw [hy188]; with_reducible exact H2_) | (have H2_ := (Option.bind_some _ _).symm.trans H; with_reducible exact H2_) | with_reducible exact H | (rw [hy188]; exact H) | exact H
                          have Ny188 := Aside0.mk hy188
                          clear hy188
                          by_cases c34 : 4 ≤ (ji25)
                          · rw [if_pos c34] at H
                            have c34b0 := eq_true c34
                            have c34b1 : decide (4 ≤ (ji25)) = true := decide_eq_true c34
                            clear c34
                            have c35b0 := eq_true (of_decide_eq_true (by first | (with_reducible assumption) | assumption) : (ji25) ≤ (l0.length : Int))
                            obtain ⟨y191, hy191⟩ : ∃ y_ : List Int, y_ = ((l0.take ((ji25) : Int).toNat).drop 4) := ⟨_, rfl⟩
                            replace H : (if y188.length + y191.length < 140737488355328 then (some ((y188 ++ y191), wrap64 (6 + (Go.bits .or .i64 (wrap64 ((wrap64 (rd l0 0)) * 256)) (wrap64 (rd l0 1)))), 0)) else (none)) = some (r1, r2, r3) := by first | (rw [hy191]; with_reducible exact H) | (have H2_ := (Option.bind_some _ _).symm.trans H; rw [hy191]; with_reducible exact H2_) | (have H2_ := (Option.bind_some _ _).symm.trans H; with_reducible exact H2_) | with_reducible exact H | (rw [hy191]; exact H) | exact H
                            have Ny191 := Aside0.mk hy191
                            clear hy191
                            by_cases c36 : y188.length + y191.length < 140737488355328
                            · rw [if_pos c36] at H
                              have LMc36 := Aside0.mk c36
                              clear c36
                              obtain ⟨y195, hy195⟩ : ∃ y_ : List Int, y_ = (y188 ++ y191) := ⟨_, rfl⟩
                              replace H : (some (y195, wrap64 (6 + (Go.bits .or .i64 (wrap64 ((wrap64 (rd l0 0)) * 256)) (wrap64 (rd l0 1)))), 0)) = some (r1, r2, r3) := by first | (rw [hy195]; with_reducible exact H) | (have H2_ := (Option.bind_some _ _).symm.trans H; rw [hy195]; with_reducible exact H2_) | (have H2_ := (Option.bind_some _ _).symm.trans H; with_reducible exact H2_) | with_reducible exact H | (rw [hy195]; exact H) | exact H
                              have Ny195 := Aside0.mk hy195
                              clear hy195
                              simp only [Option.some.injEq, Prod.mk.injEq] at H
                              obtain ⟨rfl, rfl, rfl⟩ := H
                              try go_wp2
                              have n0_ := Aside0.mk (below_drew1 HB.out)
                              clear HB
                              have HB := n0_
                              clear n0_
                              have q38 : ((ji25) : Int) ≤ ((l0.length : Int) : Int) := of_decide_eq_true (by first | (with_reducible assumption) | assumption)
                              obtain ⟨i038, hi038, _, hsz38, _⟩ := info_parts info5
                              have hroom38 : l0.length ≤ c0 := HC0.out
                              have hC38 : Kd.C (Kd.int .u8) _ (some ad162) l0.length l0 := HR0.out
                              have hcut38 := cut_to (P := Try.prog) 22 5 .i64 Try.underlying22 hi038 (some ad162) l0.length c0 (ji25) (of_decide_eq_true (by first | (with_reducible assumption) | assumption)) q38 hroom38
                              have hr38 := Kd.C_take (m := ((ji25) : Int).toNat) hC38 (by omega)
                              have hy38 : y176.length = ((ji25) : Int).toNat := (by rw [Ny176.out, List.length_take]; omega)
                              rw [← Ny176.out] at hr38
                              rw [← hy38] at hcut38
                              have HR179 := Aside0.mk hr38
                              have HC179 := Aside0.mk (show y176.length ≤ c0 from by omega)
                              clear hr38 hC38 hroom38 hi038 hsz38
                              have KY38 := Aside0.mk hy38
                              clear hy38
                              replace q38 := eq_true q38
                              have q39 : ((wrap64 (6 + (Go.bits .or .i64 (wrap64 ((wrap64 (rd l0 0)) * 256)) (wrap64 (rd l0 1))))) : Int) ≤ ((l0.length : Int) : Int) := of_decide_eq_true (by first | (with_reducible assumption) | assumption)
                              obtain ⟨i039, hi039, _, hsz39, _⟩ := info_parts info5
                              have hroom39 : l0.length ≤ c0 := HC0.out
                              have hC39 : Kd.C (Kd.int .u8) _ (some ad162) l0.length l0 := HR0.out
                              have ql39 : ((ji25) : Int) ≤ ((wrap64 (6 + (Go.bits .or .i64 (wrap64 ((wrap64 (rd l0 0)) * 256)) (wrap64 (rd l0 1))))) : Int) := of_decide_eq_true (by first | (with_reducible assumption) | assumption)
                              have q039 : (0 : Int) ≤ ((ji25) : Int) := of_decide_eq_true (by first | (with_reducible assumption) | assumption)
                              have hcut39 := cut_mid (P := Try.prog) 22 5 .i64 .i64 Try.underlying22 hi039 1 hsz39 (some ad162) l0.length c0 (ji25) (wrap64 (6 + (Go.bits .or .i64 (wrap64 ((wrap64 (rd l0 0)) * 256)) (wrap64 (rd l0 1))))) q039 ql39 q39 hroom39
                              have hr39 := Kd.C_mid (lo := ((ji25) : Int).toNat) (hi := ((wrap64 (6 + (Go.bits .or .i64 (wrap64 ((wrap64 (rd l0 0)) * 256)) (wrap64 (rd l0 1))))) : Int).toNat) (c := c0) hC39 (by omega) (by omega) hroom39
                              obtain ⟨A39, hA39⟩ : ∃ A1, A1 = (if c0 = ((ji25) : Int).toNat then (some ad162) else ((some ad162) : Option Addr).map (·.add (((ji25) : Int).toNat * 1))) := ⟨_, rfl⟩
                              obtain ⟨c39, hc39⟩ : ∃ c1, c1 = c0 - ((ji25) : Int).toNat := ⟨_, rfl⟩
                              have hy39 : y184.length = ((wrap64 (6 + (Go.bits .or .i64 (wrap64 ((wrap64 (rd l0 0)) * 256)) (wrap64 (rd l0 1))))) : Int).toNat - ((ji25) : Int).toNat := (by rw [Ny184.out, List.length_drop, List.length_take] <;> omega)
                              rw [show ((l0).take ((wrap64 (6 + (Go.bits .or .i64 (wrap64 ((wrap64 (rd l0 0)) * 256)) (wrap64 (rd l0 1))))) : Int).toNat).drop ((ji25) : Int).toNat = y184 from Ny184.out.symm] at hr39
                              replace hr39 : Kd.C (Kd.int .u8) _ A39 y184.length y184 := (by rw [hA39]; exact hr39)
                              rw [← hy39, ← hA39, ← hc39] at hcut39
                              have HR187 := Aside0.mk hr39
                              have HC187 := Aside0.mk (show y184.length ≤ c39 from by rw [hy39, hc39]; exact Nat.sub_le_sub_right (Nat.le_trans (by omega) hroom39) _)
                              clear hr39 hC39 hroom39 hi039 hsz39 hc39
                              have KY39 := Aside0.mk hy39
                              have KA39 := Aside0.mk hA39
                              clear hy39 hA39
                              replace q39 := eq_true q39
                              refine start_ (n := 15) (S := fun w' => True) (ds := []) #[false, false, false, false, false, false, false, false, false, false, false, false, false, false, false] (by kernel_rfl) rfl rfl trivial (fun hHeld => ?_); refine with_tabW tumbrelref01_Open.tab8 tumbrelref01_Open.bits8 (fun HT_ HW_ => ?_)
                              generalize wc.drew = w37 at HB HR179 HR187 hHeld ⊢
                              refine pure_ (i := 0) (N := some 41) (v := ?_) (a' := ?_) #[true, false, false, false, false, false, false, false, false, false, false, false, false, false, false] rfl rfl (any_of HT_.out (by kernel_rfl)) (fun _ _ _ h => h) (Or.inl ⟨by rfl, ?_⟩) ?_ ?_
                              rotate_left
                              · intro w'
                                go_simp
                                with_reducible rfl
                              rotate_left
                              · simp only [Act.put, List.setIfInBounds_toArray, List.set_cons_zero, List.set_cons_succ, i64_w, i32_w]
                                rfl
                              refine pure_ (i := 1) (N := some 42) (v := ?_) (a' := ?_) #[true, true, false, false, false, false, false, false, false, false, false, false, false, false, false] rfl rfl (any_of HT_.out (by kernel_rfl)) (fun _ _ _ h => h) (Or.inl ⟨by rfl, ?_⟩) ?_ ?_
                              rotate_left
                              · intro w'
                                go_simp
                                with_reducible rfl
                              rotate_left
                              · simp only [Act.put, List.setIfInBounds_toArray, List.set_cons_zero, List.set_cons_succ, i64_w, i32_w]
                                rfl
                              refine pure_ (i := 2) (N := some 43) (v := ?_) (a' := ?_) #[true, true, true, false, false, false, false, false, false, false, false, false, false, false, false] rfl rfl (any_of HT_.out (by kernel_rfl)) (fun _ _ _ h => h) (Or.inl ⟨by rfl, ?_⟩) ?_ ?_
                              rotate_left
                              · intro w'
                                go_simp
                                with_reducible rfl
                              rotate_left
                              · simp only [Act.put, List.setIfInBounds_toArray, List.set_cons_zero, List.set_cons_succ, i64_w, i32_w]
                                rfl
                              refine pure_ (i := 3) (N := some 44) (v := ?_) (a' := ?_) #[true, true, true, true, false, false, false, false, false, false, false, false, false, false, false] rfl rfl (any_of HT_.out (by kernel_rfl)) (fun _ _ _ h => h) (Or.inl ⟨by rfl, ?_⟩) ?_ ?_
                              rotate_left
                              · intro w'
                                go_simp
                                with_reducible rfl
                              rotate_left
                              · simp only [Act.put, List.setIfInBounds_toArray, List.set_cons_zero, List.set_cons_succ, i64_w, i32_w]
                                rfl
                              refine pure_ (i := 7) (N := some 48) (v := ?_) (a' := ?_) #[true, true, true, true, false, false, false, true, false, false, false, false, false, false, false] rfl rfl (any_of HT_.out (by kernel_rfl)) (fun _ _ _ h => h) (Or.inl ⟨by rfl, ?_⟩) ?_ ?_
                              rotate_left
                              · intro w'
                                go_simp
                                with_reducible rfl
                              rotate_left
                              · simp only [Act.put, List.setIfInBounds_toArray, List.set_cons_zero, List.set_cons_succ, i64_w, i32_w]
                                rfl
                              refine pure_ (i := 8) (N := some 49) (v := ?_) (a' := ?_) #[true, true, true, true, false, false, false, true, true, false, false, false, false, false, false] rfl rfl (any_of HT_.out (by kernel_rfl)) (fun _ _ _ h => h) (Or.inl ⟨by rfl, ?_⟩) ?_ ?_
                              rotate_left
                              · intro w'
                                go_simp
                                with_reducible rfl
                              rotate_left
                              · simp only [Act.put, List.setIfInBounds_toArray, List.set_cons_zero, List.set_cons_succ, i64_w, i32_w]
                                rfl
                              refine pure_ (i := 9) (N := some 50) (v := ?_) (a' := ?_) #[true, true, true, true, false, false, false, true, true, true, false, false, false, false, false] rfl rfl (any_of HT_.out (by kernel_rfl)) (fun _ _ _ h => h) (Or.inl ⟨by rfl, ?_⟩) ?_ ?_
                              rotate_left
                              · intro w'
                                go_simp
                                with_reducible rfl
                              rotate_left
                              · simp only [Act.put, List.setIfInBounds_toArray, List.set_cons_zero, List.set_cons_succ, i64_w, i32_w]
                                rfl
                              refine pure_ (i := 10) (N := some 51) (v := ?_) (a' := ?_) #[true, true, true, true, false, false, false, true, true, true, true, false, false, false, false] rfl rfl (any_of HT_.out (by kernel_rfl)) (fun _ _ _ h => h) (Or.inl ⟨by rfl, ?_⟩) ?_ ?_
                              rotate_left
                              · intro w'
                                go_simp
                                with_reducible rfl
                              rotate_left
                              · simp only [Act.put, List.setIfInBounds_toArray, List.set_cons_zero, List.set_cons_succ, i64_w, i32_w]
                                rfl
                              refine pure_ (i := 11) (N := some 52) (v := ?_) (a' := ?_) #[true, true, true, true, false, false, false, true, true, true, true, true, false, false, false] rfl rfl (any_of HT_.out (by kernel_rfl)) (fun _ _ _ h => h) (Or.inl ⟨by rfl, ?_⟩) ?_ ?_
                              rotate_left
                              · intro w'
                                go_simp
                                with_reducible rfl
                              rotate_left
                              · simp only [Act.put, List.setIfInBounds_toArray, List.set_cons_zero, List.set_cons_succ, i64_w, i32_w]
                                rfl
                              refine pure_ (i := 12) (N := some 53) (v := ?_) (a' := ?_) #[true, true, true, true, false, false, false, true, true, true, true, true, true, false, false] rfl rfl (any_of HT_.out (by kernel_rfl)) (fun _ _ _ h => h) (Or.inl ⟨by rfl, ?_⟩) ?_ ?_
                              rotate_left
                              · intro w'
                                go_simp
                                with_reducible rfl
                              rotate_left
                              · simp only [Act.put, List.setIfInBounds_toArray, List.set_cons_zero, List.set_cons_succ, i64_w, i32_w]
                                rfl
                              refine join_ (σ := Value) 1 #[true, true, true, true, true, true, true, true, true, true, true, true, true, true, false] (fun s_ => [(45, .int .u16 t180), (46, s_), (47, .string (strOfNums t181)), (54, .string (strOfNums y184))]) (fun s_ w' => (Kd.R (Kd.int .u8) 5 w' w.heap.size (fun _ => True) s_ t181) ∧ (Below w.heap.size w w')) ?_ ?_
                              rotate_left
                              · intro hCont
                                refine two_ (i := 4) (j := 13) (Ni := some 45) (Nj := some 54) #[true, true, true, true, true, false, false, true, true, true, true, true, true, false, false] #[true, true, true, true, false, false, false, true, true, true, true, true, true, true, false] rfl rfl rfl rfl (two_of HT_.out (by kernel_rfl)) (by decide) (by decide) (fun K hK => ?_) (fun K hK => ?_)
                                · skip
                                  refine goes_ Try.func16 (by kernel_rfl) rfl #[.slice (some ad162) y176.length c0] (by rfl) rfl rfl (by (try simp only [List.map_toArray, List.map_cons, List.map_nil]); first | done | rfl | (simp only [List.length_drop, List.length_take]; rfl)) ?_
                                  with_reducible refine (tumbrelref01_Sum.calls kj4 _ _ y176 t180 _ ?side1 ?side2 A28.out).mono ?_
                                  (case side1 => repeat (first | exact (Kd.C_below HR179.out HB.out) | (with_reducible refine Kd.C_alloc ?_ _) | (with_reducible refine Kd.C_drewN ?_ _) | (with_reducible refine Kd.C_drew ?_)))
                                  (case side2 => exact HC179.out)
                                  rintro e w' ⟨rfl, ⟨nd, rfl⟩⟩
                                  refine ⟨_, rfl, ?_⟩
                                  refine hK.out _ _ trivial (fun hHeld => ?_)
                                  clear hK K
                                  refine norm_ (a' := ?_) ?_ ?_
                                  rotate_left
                                  · show Act.put _ (some 45) _ = _
                                    simp only [Act.put, List.setIfInBounds_toArray, List.set_cons_zero, List.set_cons_succ, i64_w, i32_w]
                                    rfl
                                  refine two_ (i := 5) (j := 13) (Ni := some 46) (Nj := some 54) #[true, true, true, true, true, true, false, true, true, true, true, true, true, false, false] #[true, true, true, true, true, false, false, true, true, true, true, true, true, true, false] rfl rfl rfl rfl (two_of HT_.out (by kernel_rfl)) (by decide) (by decide) (fun K hK => ?_) (fun K hK => ?_)
                                  · skip
                                    refine goes_ Try.func37 (by kernel_rfl) rfl #[.int .u16 t180] (by rfl) rfl rfl (by (try simp only [List.map_toArray, List.map_cons, List.map_nil]); first | done | rfl | (simp only [List.length_drop, List.length_take]; rfl)) ?_
                                    with_reducible refine (tumbrelref01_two.calls t180 t181 _ A29.out).mono ?_
                                    rintro e w40 ⟨v182, rfl, ho0, hb⟩
                                    refine ⟨_, rfl, ?_⟩
                                    have n0_ := Aside0.mk (Kd.R_lower ho0 (below_size (by repeat (first | (with_reducible first | exact HB.out | apply below_alloc | apply pw_below_drewN | apply below_drew1) | exact HB.out))))
                                    have n1_ := Aside0.mk (below_step (by repeat (first | (with_reducible first | exact HB.out | apply below_alloc | apply pw_below_drewN | apply below_drew1) | exact HB.out)) hb)
                                    clear HB
                                    have HO183 := n0_
                                    have HB := n1_
                                    clear n0_ n1_
                                    (try clear hb)
                                    (try clear hb2)
                                    (try clear hk)
                                    (try clear hi)
                                    (try clear ho0)
                                    refine hK.out _ _ trivial (fun hHeld => ?_)
                                    clear hK K
                                    refine norm_ (a' := ?_) ?_ ?_
                                    rotate_left
                                    · show Act.put _ (some 46) _ = _
                                      simp only [Act.put, List.setIfInBounds_toArray, List.set_cons_zero, List.set_cons_succ, i64_w, i32_w]
                                      rfl
                                    refine two_ (i := 6) (j := 13) (Ni := some 47) (Nj := some 54) #[true, true, true, true, true, true, true, true, true, true, true, true, true, false, false] #[true, true, true, true, true, true, false, true, true, true, true, true, true, true, false] rfl rfl rfl rfl (two_of HT_.out (by kernel_rfl)) (by decide) (by decide) (fun K hK => ?_) (fun K hK => ?_)
                                    · skip
                                      have hcv41 := own_string (P := Try.prog) Try.underlying22 Try.underlying5 Try.underlying9 (Kd.own_of_R HO183.out)
                                      refine value_ (w1 := ?_) (v := ?_) (by rfl) rfl ?_ ?_
                                      rotate_left 2
                                      · go_simp
                                        constructor
                                        · rfl
                                        · rfl
                                      clear hcv41
                                      refine hK.out _ _ trivial (fun hHeld => ?_)
                                      clear hK K
                                      refine norm_ (a' := ?_) ?_ ?_
                                      rotate_left
                                      · show Act.put _ (some 47) _ = _
                                        simp only [Act.put, List.setIfInBounds_toArray, List.set_cons_zero, List.set_cons_succ, i64_w, i32_w]
                                        rfl
                                      refine one_ (i := 13) (N := some 54) #[true, true, true, true, true, true, true, true, true, true, true, true, true, true, false] rfl rfl (one_of HT_.out (by kernel_rfl)) (by decide) (fun K hK => ?_)
                                      have hcv42 := Kd.C_string (P := Try.prog) (A := A39) (c := c39) Try.underlying22 Try.underlying5 Try.underlying9 (Kd.C_below HR187.out HB.out); have hcv42d := fun m_ => Kd.C_string (P := Try.prog) (A := A39) (c := c39) Try.underlying22 Try.underlying5 Try.underlying9 (Kd.C_drewN ((Kd.C_below HR187.out HB.out)) m_)
                                      refine value_ (w1 := ?_) (v := ?_) (by rfl) rfl ?_ ?_
                                      rotate_left 2
                                      · go_simp
                                        constructor
                                        · rfl
                                        · rfl
                                      clear hcv42 hcv42d
                                      refine hK.out _ _ trivial (fun hHeld => ?_)
                                      clear hK K
                                      refine norm_ (a' := ?_) ?_ ?_
                                      rotate_left
                                      · show Act.put _ (some 54) _ = _
                                        simp only [Act.put, List.setIfInBounds_toArray, List.set_cons_zero, List.set_cons_succ, i64_w, i32_w]
                                        rfl
                                      exact norm_ (by simp only [putAll, Act.put, List.setIfInBounds_toArray, List.set_cons_zero, List.set_cons_succ]) (hCont (v182) _ ⟨(by (with_reducible repeat (first | apply Kd.R_alloc | apply Kd.R_drewN | apply Kd.R_drew)); exact HO183.out), (by repeat (first | (with_reducible first | exact HB.out | apply below_alloc | apply pw_below_drewN | apply below_drew1) | exact HB.out))⟩)
                                    · skip
                                      have hcv41 := Kd.C_string (P := Try.prog) (A := A39) (c := c39) Try.underlying22 Try.underlying5 Try.underlying9 (Kd.C_below HR187.out HB.out); have hcv41d := fun m_ => Kd.C_string (P := Try.prog) (A := A39) (c := c39) Try.underlying22 Try.underlying5 Try.underlying9 (Kd.C_drewN ((Kd.C_below HR187.out HB.out)) m_)
                                      refine value_ (w1 := ?_) (v := ?_) (by rfl) rfl ?_ ?_
                                      rotate_left 2
                                      · go_simp
                                        constructor
                                        · rfl
                                        · rfl
                                      clear hcv41 hcv41d
                                      refine hK.out _ _ trivial (fun hHeld => ?_)
                                      clear hK K
                                      refine norm_ (a' := ?_) ?_ ?_
                                      rotate_left
                                      · show Act.put _ (some 54) _ = _
                                        simp only [Act.put, List.setIfInBounds_toArray, List.set_cons_zero, List.set_cons_succ, i64_w, i32_w]
                                        rfl
                                      refine one_ (i := 6) (N := some 47) #[true, true, true, true, true, true, true, true, true, true, true, true, true, true, false] rfl rfl (one_of HT_.out (by kernel_rfl)) (by decide) (fun K hK => ?_)
                                      have hcv42 := own_string (P := Try.prog) Try.underlying22 Try.underlying5 Try.underlying9 (Kd.own_of_R HO183.out)
                                      refine value_ (w1 := ?_) (v := ?_) (by rfl) rfl ?_ ?_
                                      rotate_left 2
                                      · go_simp
                                        constructor
                                        · rfl
                                        · rfl
                                      clear hcv42
                                      refine hK.out _ _ trivial (fun hHeld => ?_)
                                      clear hK K
                                      refine norm_ (a' := ?_) ?_ ?_
                                      rotate_left
                                      · show Act.put _ (some 47) _ = _
                                        simp only [Act.put, List.setIfInBounds_toArray, List.set_cons_zero, List.set_cons_succ, i64_w, i32_w]
                                        rfl
                                      exact norm_ (by simp only [putAll, Act.put, List.setIfInBounds_toArray, List.set_cons_zero, List.set_cons_succ]) (hCont (v182) _ ⟨(by (with_reducible repeat (first | apply Kd.R_alloc | apply Kd.R_drewN | apply Kd.R_drew)); exact HO183.out), (by repeat (first | (with_reducible first | exact HB.out | apply below_alloc | apply pw_below_drewN | apply below_drew1) | exact HB.out))⟩)
                                  · skip
                                    have hcv40 := Kd.C_string (P := Try.prog) (A := A39) (c := c39) Try.underlying22 Try.underlying5 Try.underlying9 (Kd.C_below HR187.out HB.out); have hcv40d := fun m_ => Kd.C_string (P := Try.prog) (A := A39) (c := c39) Try.underlying22 Try.underlying5 Try.underlying9 (Kd.C_drewN ((Kd.C_below HR187.out HB.out)) m_)
                                    refine value_ (w1 := ?_) (v := ?_) (by rfl) rfl ?_ ?_
                                    rotate_left 2
                                    · go_simp
                                      constructor
                                      · rfl
                                      · rfl
                                    clear hcv40 hcv40d
                                    refine hK.out _ _ trivial (fun hHeld => ?_)
                                    clear hK K
                                    refine norm_ (a' := ?_) ?_ ?_
                                    rotate_left
                                    · show Act.put _ (some 54) _ = _
                                      simp only [Act.put, List.setIfInBounds_toArray, List.set_cons_zero, List.set_cons_succ, i64_w, i32_w]
                                      rfl
                                    refine one_ (i := 5) (N := some 46) #[true, true, true, true, true, true, false, true, true, true, true, true, true, true, false] rfl rfl (one_of HT_.out (by kernel_rfl)) (by decide) (fun K hK => ?_)
                                    refine goes_ Try.func37 (by kernel_rfl) rfl #[.int .u16 t180] (by rfl) rfl rfl (by (try simp only [List.map_toArray, List.map_cons, List.map_nil]); first | done | rfl | (simp only [List.length_drop, List.length_take]; rfl)) ?_
                                    with_reducible refine (tumbrelref01_two.calls t180 t181 _ A29.out).mono ?_
                                    rintro e w41 ⟨v182, rfl, ho0, hb⟩
                                    refine ⟨_, rfl, ?_⟩
                                    have n0_ := Aside0.mk (Kd.R_lower ho0 (below_size (by repeat (first | (with_reducible first | exact HB.out | apply below_alloc | apply pw_below_drewN | apply below_drew1) | exact HB.out))))
                                    have n1_ := Aside0.mk (below_step (by repeat (first | (with_reducible first | exact HB.out | apply below_alloc | apply pw_below_drewN | apply below_drew1) | exact HB.out)) hb)
                                    clear HB
                                    have HO183 := n0_
                                    have HB := n1_
                                    clear n0_ n1_
                                    (try clear hb)
                                    (try clear hb2)
                                    (try clear hk)
                                    (try clear hi)
                                    (try clear ho0)
                                    refine hK.out _ _ trivial (fun hHeld => ?_)
                                    clear hK K
                                    refine norm_ (a' := ?_) ?_ ?_
                                    rotate_left
                                    · show Act.put _ (some 46) _ = _
                                      simp only [Act.put, List.setIfInBounds_toArray, List.set_cons_zero, List.set_cons_succ, i64_w, i32_w]
                                      rfl
                                    refine one_ (i := 6) (N := some 47) #[true, true, true, true, true, true, true, true, true, true, true, true, true, true, false] rfl rfl (one_of HT_.out (by kernel_rfl)) (by decide) (fun K hK => ?_)
                                    have hcv42 := own_string (P := Try.prog) Try.underlying22 Try.underlying5 Try.underlying9 (Kd.own_of_R HO183.out)
                                    refine value_ (w1 := ?_) (v := ?_) (by rfl) rfl ?_ ?_
                                    rotate_left 2
                                    · go_simp
                                      constructor
                                      · rfl
                                      · rfl
                                    clear hcv42
                                    refine hK.out _ _ trivial (fun hHeld => ?_)
                                    clear hK K
                                    refine norm_ (a' := ?_) ?_ ?_
                                    rotate_left
                                    · show Act.put _ (some 47) _ = _
                                      simp only [Act.put, List.setIfInBounds_toArray, List.set_cons_zero, List.set_cons_succ, i64_w, i32_w]
                                      rfl
                                    exact norm_ (by simp only [putAll, Act.put, List.setIfInBounds_toArray, List.set_cons_zero, List.set_cons_succ]) (hCont (v182) _ ⟨(by (with_reducible repeat (first | apply Kd.R_alloc | apply Kd.R_drewN | apply Kd.R_drew)); exact HO183.out), (by repeat (first | (with_reducible first | exact HB.out | apply below_alloc | apply pw_below_drewN | apply below_drew1) | exact HB.out))⟩)
                                · skip
                                  have hcv40 := Kd.C_string (P := Try.prog) (A := A39) (c := c39) Try.underlying22 Try.underlying5 Try.underlying9 (Kd.C_below HR187.out HB.out); have hcv40d := fun m_ => Kd.C_string (P := Try.prog) (A := A39) (c := c39) Try.underlying22 Try.underlying5 Try.underlying9 (Kd.C_drewN ((Kd.C_below HR187.out HB.out)) m_)
                                  refine value_ (w1 := ?_) (v := ?_) (by rfl) rfl ?_ ?_
                                  rotate_left 2
                                  · go_simp
                                    constructor
                                    · rfl
                                    · rfl
                                  clear hcv40 hcv40d
                                  refine hK.out _ _ trivial (fun hHeld => ?_)
                                  clear hK K
                                  refine norm_ (a' := ?_) ?_ ?_
                                  rotate_left
                                  · show Act.put _ (some 54) _ = _
                                    simp only [Act.put, List.setIfInBounds_toArray, List.set_cons_zero, List.set_cons_succ, i64_w, i32_w]
                                    rfl
                                  refine one_ (i := 4) (N := some 45) #[true, true, true, true, true, false, false, true, true, true, true, true, true, true, false] rfl rfl (one_of HT_.out (by kernel_rfl)) (by decide) (fun K hK => ?_)
                                  refine goes_ Try.func16 (by kernel_rfl) rfl #[.slice (some ad162) y176.length c0] (by rfl) rfl rfl (by (try simp only [List.map_toArray, List.map_cons, List.map_nil]); first | done | rfl | (simp only [List.length_drop, List.length_take]; rfl)) ?_
                                  with_reducible refine (tumbrelref01_Sum.calls kj4 _ _ y176 t180 _ ?side1 ?side2 A28.out).mono ?_
                                  (case side1 => repeat (first | exact (Kd.C_below HR179.out HB.out) | (with_reducible refine Kd.C_alloc ?_ _) | (with_reducible refine Kd.C_drewN ?_ _) | (with_reducible refine Kd.C_drew ?_)))
                                  (case side2 => exact HC179.out)
                                  rintro e w' ⟨rfl, ⟨nd, rfl⟩⟩
                                  refine ⟨_, rfl, ?_⟩
                                  refine hK.out _ _ trivial (fun hHeld => ?_)
                                  clear hK K
                                  refine norm_ (a' := ?_) ?_ ?_
                                  rotate_left
                                  · show Act.put _ (some 45) _ = _
                                    simp only [Act.put, List.setIfInBounds_toArray, List.set_cons_zero, List.set_cons_succ, i64_w, i32_w]
                                    rfl
                                  refine one_ (i := 5) (N := some 46) #[true, true, true, true, true, true, false, true, true, true, true, true, true, true, false] rfl rfl (one_of HT_.out (by kernel_rfl)) (by decide) (fun K hK => ?_)
                                  refine goes_ Try.func37 (by kernel_rfl) rfl #[.int .u16 t180] (by rfl) rfl rfl (by (try simp only [List.map_toArray, List.map_cons, List.map_nil]); first | done | rfl | (simp only [List.length_drop, List.length_take]; rfl)) ?_
                                  with_reducible refine (tumbrelref01_two.calls t180 t181 _ A29.out).mono ?_
                                  rintro e w41 ⟨v182, rfl, ho0, hb⟩
                                  refine ⟨_, rfl, ?_⟩
                                  have n0_ := Aside0.mk (Kd.R_lower ho0 (below_size (by repeat (first | (with_reducible first | exact HB.out | apply below_alloc | apply pw_below_drewN | apply below_drew1) | exact HB.out))))
                                  have n1_ := Aside0.mk (below_step (by repeat (first | (with_reducible first | exact HB.out | apply below_alloc | apply pw_below_drewN | apply below_drew1) | exact HB.out)) hb)
                                  clear HB
                                  have HO183 := n0_
                                  have HB := n1_
                                  clear n0_ n1_
                                  (try clear hb)
                                  (try clear hb2)
                                  (try clear hk)
                                  (try clear hi)
                                  (try clear ho0)
                                  refine hK.out _ _ trivial (fun hHeld => ?_)
                                  clear hK K
                                  refine norm_ (a' := ?_) ?_ ?_
                                  rotate_left
                                  · show Act.put _ (some 46) _ = _
                                    simp only [Act.put, List.setIfInBounds_toArray, List.set_cons_zero, List.set_cons_succ, i64_w, i32_w]
                                    rfl
                                  refine one_ (i := 6) (N := some 47) #[true, true, true, true, true, true, true, true, true, true, true, true, true, true, false] rfl rfl (one_of HT_.out (by kernel_rfl)) (by decide) (fun K hK => ?_)
                                  have hcv42 := own_string (P := Try.prog) Try.underlying22 Try.underlying5 Try.underlying9 (Kd.own_of_R HO183.out)
                                  refine value_ (w1 := ?_) (v := ?_) (by rfl) rfl ?_ ?_
                                  rotate_left 2
                                  · go_simp
                                    constructor
                                    · rfl
                                    · rfl
                                  clear hcv42
                                  refine hK.out _ _ trivial (fun hHeld => ?_)
                                  clear hK K
                                  refine norm_ (a' := ?_) ?_ ?_
                                  rotate_left
                                  · show Act.put _ (some 47) _ = _
                                    simp only [Act.put, List.setIfInBounds_toArray, List.set_cons_zero, List.set_cons_succ, i64_w, i32_w]
                                    rfl
                                  exact norm_ (by simp only [putAll, Act.put, List.setIfInBounds_toArray, List.set_cons_zero, List.set_cons_succ]) (hCont (v182) _ ⟨(by (with_reducible repeat (first | apply Kd.R_alloc | apply Kd.R_drewN | apply Kd.R_drew)); exact HO183.out), (by repeat (first | (with_reducible first | exact HB.out | apply below_alloc | apply pw_below_drewN | apply below_drew1) | exact HB.out))⟩)
                              rintro v182 w43 ⟨h0_, h1_⟩
                              have n0_ : Aside0 (Kd.R (Kd.int .u8) 5 w43 w.heap.size (fun _ => True) v182 t181) := ⟨h0_⟩
                              have n1_ : Aside0 (Below w.heap.size w w43) := ⟨h1_⟩
                              clear HB
                              clear h0_ h1_
                              have HO183 := n0_
                              have HB := n1_
                              clear n0_ n1_
                              have hHeld := trivial
                              refine norm_ (a' := ?_) ?_ ?_
                              rotate_left
                              · simp only [putAll, Act.put, List.setIfInBounds_toArray, List.set_cons_zero, List.set_cons_succ]
                                rfl
                              refine pure_ (i := 14) (N := some 55) (v := ?_) (a' := ?_) #[true, true, true, true, true, true, true, true, true, true, true, true, true, true, true] rfl rfl (any_of HT_.out (by kernel_rfl)) (fun _ _ _ h => h) (Or.inl ⟨by rfl, ?_⟩) ?_ ?_
                              rotate_left
                              · intro w'
                                go_simp
                                with_reducible rfl
                              rotate_left
                              · simp only [Act.put, List.setIfInBounds_toArray, List.set_cons_zero, List.set_cons_succ, i64_w, i32_w]
                                rfl
                              refine done_ (done_of HT_.out (by kernel_rfl)) ?_
                              try go_wp2_with (first | ((with_reducible refine gate_dst (N := 56) rfl ?_); refine Kd.R_lit (Kd.int .u8) _ 5 ?hg (N := 56) ?hd (xs := ([] : List Int)) (inner := []) (ok := fun _ => True) (okp := fun _ => True) ?hr ?hp (fun _ hk => hk) trivial (Below.refl _ _) (Nat.le_refl _) (by simp) ?_; (case hd => rfl); (case hg => rfl); (case hr => first | (go_simp; done) | (go_simp; rfl)); (case hp => exact (Reps.none _ _)); intro v189 w44 ho45 hb hg_ hnew_; clear hg_ hnew_; (first | rw [← Ny188.out] at ho45 | (simp only [Int.reduceToNat] at ho45; rw [← Ny188.out] at ho45)); have n0_ := Aside0.mk (Kd.R_elder' (by (with_reducible repeat (first | apply Kd.R_alloc | apply Kd.R_drewN | apply Kd.R_drew)); exact HO183.out) (Kd.R_base ho45) hb); have n1_ := Aside0.mk (Kd.R_lower (Kd.R_new' ho45 (Kd.R_lt (by (with_reducible repeat (first | apply Kd.R_alloc | apply Kd.R_drewN | apply Kd.R_drew)); exact HO183.out))) (below_size (by repeat (first | (with_reducible first | exact HB.out | apply below_alloc | apply pw_below_drewN | apply below_drew1) | exact HB.out)))); have n2_ := Aside0.mk (below_step (by repeat (first | (with_reducible first | exact HB.out | apply below_alloc | apply pw_below_drewN | apply below_drew1) | exact HB.out)) hb); clear HO183; clear HB; have HO183 := n0_; have HO190 := n1_; have HB := n2_; clear n0_ n1_ n2_; clear hb ho45; have q46 : ((ji25) : Int) ≤ ((l0.length : Int) : Int) := of_decide_eq_true (by first | (with_reducible assumption) | assumption); obtain ⟨i046, hi046, _, hsz46, _⟩ := info_parts info5; have hroom46 : l0.length ≤ c0 := HC0.out; have hC46 : Kd.C (Kd.int .u8) _ (some ad162) l0.length l0 := HR0.out; have ql46 : (4 : Int) ≤ ((ji25) : Int) := of_decide_eq_true (by first | (with_reducible assumption) | assumption); have hcut46 := cut_mid (P := Try.prog) 22 5 .i64 .i64 Try.underlying22 hi046 1 hsz46 (some ad162) l0.length c0 4 (ji25) (by omega) ql46 q46 hroom46; have hr46 := Kd.C_mid (lo := (4 : Int).toNat) (hi := ((ji25) : Int).toNat) (c := c0) hC46 (by omega) (by omega) hroom46; obtain ⟨A46, hA46⟩ : ∃ A1, A1 = (if c0 = (4 : Int).toNat then (some ad162) else ((some ad162) : Option Addr).map (·.add ((4 : Int).toNat * 1))) := ⟨_, rfl⟩; obtain ⟨c46, hc46⟩ : ∃ c1, c1 = c0 - (4 : Int).toNat := ⟨_, rfl⟩; have hy46 : y191.length = ((ji25) : Int).toNat - (4 : Int).toNat := (by rw [Ny191.out, List.length_drop, List.length_take] <;> omega); rw [show ((l0).take ((ji25) : Int).toNat).drop (4 : Int).toNat = y191 from Ny191.out.symm] at hr46; replace hr46 : Kd.C (Kd.int .u8) _ A46 y191.length y191 := (by rw [hA46]; exact hr46); rw [← hy46, ← hA46, ← hc46] at hcut46; have HR194 := Aside0.mk hr46; have HC194 := Aside0.mk (show y191.length ≤ c46 from by rw [hy46, hc46]; exact Nat.sub_le_sub_right (Nat.le_trans (by omega) hroom46) _); clear hr46 hC46 hroom46 hi046 hsz46 hc46; have KY46 := Aside0.mk hy46; have KA46 := Aside0.mk hA46; clear hy46 hA46; replace q46 := eq_true q46) | ((with_reducible refine gate_builtin (b := .append) (xs := #[.tmp 56, .tmp 60]) rfl ?_); at_builtin; refine Kd.R_append_rows (Kd.int .u8) (w0 := w) w.heap.size rfl (.tmp 56) (.tmp 60) 22 5 (.int .u8 0) 1 rfl Try.underlying22 info5 rfl (by decide) (by omega) v189 y188 y191 _ _ _ (fun k_ => some k_ ≠ (v182 : Value).ownBlock) (fun _ => False) rfl rfl ?aO ?aR (fun _ _ h => h) (fun _ h => h.elim) ?aF ?aB ?aS ?aL ?_; (case aR => repeat (first | exact (Kd.C_below HR194.out HB.out) | (with_reducible refine Kd.C_alloc ?_ _) | (with_reducible refine Kd.C_drewN ?_ _) | (with_reducible refine Kd.C_drew ?_))); (case aB => exact (by repeat (first | (with_reducible first | exact HB.out | apply below_alloc | apply pw_below_drewN | apply below_drew1) | exact HB.out))); (case aF => exact (fun k_ hk => Kd.fresh' (Kd.R_lt (by (with_reducible repeat (first | apply Kd.R_alloc | apply Kd.R_drewN | apply Kd.R_drew)); exact HO183.out)) k_ hk)); (case aO => exact (by (with_reducible repeat (first | apply Kd.R_alloc | apply Kd.R_drewN | apply Kd.R_drew)); exact Kd.R_mono HO190.out (fun _ hk => hk.2))); (case aS => exact (below_size (by repeat (first | (with_reducible first | exact HB.out | apply below_alloc | apply pw_below_drewN | apply below_drew1) | exact HB.out)))); (case aL => have := LMc36.out; omega); intro v196 w47 ho hb hg hat; rw [← Ny195.out] at ho; have n0_ := Aside0.mk (Kd.R_after (ok := (fun _ => True)) (by (with_reducible repeat (first | apply Kd.R_alloc | apply Kd.R_drewN | apply Kd.R_drew)); exact HO183.out) hg hat); have n1_ := Aside0.mk (hb); have n2_ := Aside0.mk (ho); clear HO183; clear HB; clear HO190; have HO183 := n0_; have HB := n1_; have HO197 := n2_; clear n0_ n1_ n2_; clear ho hb hg hat))
                              go_ret3
                              exact ⟨_, by first | rfl | (simp [errW_none, errW_some] <;> rfl) | (simp only [← hji25]; first | rfl | (simp [errW_none, errW_some] <;> rfl)) | (simp [*, errW_none, errW_some] <;> rfl), by (with_reducible repeat (first | apply Kd.R_alloc | apply Kd.R_drewN | apply Kd.R_drew)); exact Kd.R_mono HO197.out (fun _ hk => trivial), by repeat (first | (with_reducible first | exact HB.out | apply below_alloc | apply pw_below_drewN | apply below_drew1) | exact HB.out)⟩
                            · rw [if_neg c36] at H
                              exact absurd H (by simp)
                          · rw [if_neg c34] at H
                            exact absurd H (by simp)
                        · rw [if_neg c33] at H
                          have c33b0 : ((strOfNums t181).toList == (strOfNums y184).toList) = false := beq_eq_false_iff_ne.mpr c33
                          have c33b1 : ((strOfNums t181).toList != (strOfNums y184).toList) = true := bne_iff_ne.mpr c33
                          simp only [Option.some.injEq, Prod.mk.injEq] at H
                          obtain ⟨rfl, rfl, rfl⟩ := H
                          try go_wp2
                          have n0_ := Aside0.mk (below_drew1 HB.out)
                          clear HB
                          have HB := n0_
                          clear n0_
                          have q49 : ((ji25) : Int) ≤ ((l0.length : Int) : Int) := of_decide_eq_true (by first | (with_reducible assumption) | assumption)
                          obtain ⟨i049, hi049, _, hsz49, _⟩ := info_parts info5
                          have hroom49 : l0.length ≤ c0 := HC0.out
                          have hC49 : Kd.C (Kd.int .u8) _ (some ad162) l0.length l0 := HR0.out
                          have hcut49 := cut_to (P := Try.prog) 22 5 .i64 Try.underlying22 hi049 (some ad162) l0.length c0 (ji25) (of_decide_eq_true (by first | (with_reducible assumption) | assumption)) q49 hroom49
                          have hr49 := Kd.C_take (m := ((ji25) : Int).toNat) hC49 (by omega)
                          have hy49 : y176.length = ((ji25) : Int).toNat := (by rw [Ny176.out, List.length_take]; omega)
                          rw [← Ny176.out] at hr49
                          rw [← hy49] at hcut49
                          have HR179 := Aside0.mk hr49
                          have HC179 := Aside0.mk (show y176.length ≤ c0 from by omega)
                          clear hr49 hC49 hroom49 hi049 hsz49
                          have KY49 := Aside0.mk hy49
                          clear hy49
                          replace q49 := eq_true q49
                          have q50 : ((wrap64 (6 + (Go.bits .or .i64 (wrap64 ((wrap64 (rd l0 0)) * 256)) (wrap64 (rd l0 1))))) : Int) ≤ ((l0.length : Int) : Int) := of_decide_eq_true (by first | (with_reducible assumption) | assumption)
                          obtain ⟨i050, hi050, _, hsz50, _⟩ := info_parts info5
                          have hroom50 : l0.length ≤ c0 := HC0.out
                          have hC50 : Kd.C (Kd.int .u8) _ (some ad162) l0.length l0 := HR0.out
                          have ql50 : ((ji25) : Int) ≤ ((wrap64 (6 + (Go.bits .or .i64 (wrap64 ((wrap64 (rd l0 0)) * 256)) (wrap64 (rd l0 1))))) : Int) := of_decide_eq_true (by first | (with_reducible assumption) | assumption)
                          have q050 : (0 : Int) ≤ ((ji25) : Int) := of_decide_eq_true (by first | (with_reducible assumption) | assumption)
                          have hcut50 := cut_mid (P := Try.prog) 22 5 .i64 .i64 Try.underlying22 hi050 1 hsz50 (some ad162) l0.length c0 (ji25) (wrap64 (6 + (Go.bits .or .i64 (wrap64 ((wrap64 (rd l0 0)) * 256)) (wrap64 (rd l0 1))))) q050 ql50 q50 hroom50
                          have hr50 := Kd.C_mid (lo := ((ji25) : Int).toNat) (hi := ((wrap64 (6 + (Go.bits .or .i64 (wrap64 ((wrap64 (rd l0 0)) * 256)) (wrap64 (rd l0 1))))) : Int).toNat) (c := c0) hC50 (by omega) (by omega) hroom50
                          obtain ⟨A50, hA50⟩ : ∃ A1, A1 = (if c0 = ((ji25) : Int).toNat then (some ad162) else ((some ad162) : Option Addr).map (·.add (((ji25) : Int).toNat * 1))) := ⟨_, rfl⟩
                          obtain ⟨c50, hc50⟩ : ∃ c1, c1 = c0 - ((ji25) : Int).toNat := ⟨_, rfl⟩
                          have hy50 : y184.length = ((wrap64 (6 + (Go.bits .or .i64 (wrap64 ((wrap64 (rd l0 0)) * 256)) (wrap64 (rd l0 1))))) : Int).toNat - ((ji25) : Int).toNat := (by rw [Ny184.out, List.length_drop, List.length_take] <;> omega)
                          rw [show ((l0).take ((wrap64 (6 + (Go.bits .or .i64 (wrap64 ((wrap64 (rd l0 0)) * 256)) (wrap64 (rd l0 1))))) : Int).toNat).drop ((ji25) : Int).toNat = y184 from Ny184.out.symm] at hr50
                          replace hr50 : Kd.C (Kd.int .u8) _ A50 y184.length y184 := (by rw [hA50]; exact hr50)
                          rw [← hy50, ← hA50, ← hc50] at hcut50
                          have HR187 := Aside0.mk hr50
                          have HC187 := Aside0.mk (show y184.length ≤ c50 from by rw [hy50, hc50]; exact Nat.sub_le_sub_right (Nat.le_trans (by omega) hroom50) _)
                          clear hr50 hC50 hroom50 hi050 hsz50 hc50
                          have KY50 := Aside0.mk hy50
                          have KA50 := Aside0.mk hA50
                          clear hy50 hA50
                          replace q50 := eq_true q50
                          refine start_ (n := 15) (S := fun w' => True) (ds := []) #[false, false, false, false, false, false, false, false, false, false, false, false, false, false, false] (by kernel_rfl) rfl rfl trivial (fun hHeld => ?_); refine with_tabW tumbrelref01_Open.tab8 tumbrelref01_Open.bits8 (fun HT_ HW_ => ?_)
                          generalize wc.drew = w48 at HB HR179 HR187 hHeld ⊢
                          refine pure_ (i := 0) (N := some 41) (v := ?_) (a' := ?_) #[true, false, false, false, false, false, false, false, false, false, false, false, false, false, false] rfl rfl (any_of HT_.out (by kernel_rfl)) (fun _ _ _ h => h) (Or.inl ⟨by rfl, ?_⟩) ?_ ?_
                          rotate_left
                          · intro w'
                            go_simp
                            with_reducible rfl
                          rotate_left
                          · simp only [Act.put, List.setIfInBounds_toArray, List.set_cons_zero, List.set_cons_succ, i64_w, i32_w]
                            rfl
                          refine pure_ (i := 1) (N := some 42) (v := ?_) (a' := ?_) #[true, true, false, false, false, false, false, false, false, false, false, false, false, false, false] rfl rfl (any_of HT_.out (by kernel_rfl)) (fun _ _ _ h => h) (Or.inl ⟨by rfl, ?_⟩) ?_ ?_
                          rotate_left
                          · intro w'
                            go_simp
                            with_reducible rfl
                          rotate_left
                          · simp only [Act.put, List.setIfInBounds_toArray, List.set_cons_zero, List.set_cons_succ, i64_w, i32_w]
                            rfl
                          refine pure_ (i := 2) (N := some 43) (v := ?_) (a' := ?_) #[true, true, true, false, false, false, false, false, false, false, false, false, false, false, false] rfl rfl (any_of HT_.out (by kernel_rfl)) (fun _ _ _ h => h) (Or.inl ⟨by rfl, ?_⟩) ?_ ?_
                          rotate_left
                          · intro w'
                            go_simp
                            with_reducible rfl
                          rotate_left
                          · simp only [Act.put, List.setIfInBounds_toArray, List.set_cons_zero, List.set_cons_succ, i64_w, i32_w]
                            rfl
                          refine pure_ (i := 3) (N := some 44) (v := ?_) (a' := ?_) #[true, true, true, true, false, false, false, false, false, false, false, false, false, false, false] rfl rfl (any_of HT_.out (by kernel_rfl)) (fun _ _ _ h => h) (Or.inl ⟨by rfl, ?_⟩) ?_ ?_
                          rotate_left
                          · intro w'
                            go_simp
                            with_reducible rfl
                          rotate_left
                          · simp only [Act.put, List.setIfInBounds_toArray, List.set_cons_zero, List.set_cons_succ, i64_w, i32_w]
                            rfl
                          refine pure_ (i := 7) (N := some 48) (v := ?_) (a' := ?_) #[true, true, true, true, false, false, false, true, false, false, false, false, false, false, false] rfl rfl (any_of HT_.out (by kernel_rfl)) (fun _ _ _ h => h) (Or.inl ⟨by rfl, ?_⟩) ?_ ?_
                          rotate_left
                          · intro w'
                            go_simp
                            with_reducible rfl
                          rotate_left
                          · simp only [Act.put, List.setIfInBounds_toArray, List.set_cons_zero, List.set_cons_succ, i64_w, i32_w]
                            rfl
                          refine pure_ (i := 8) (N := some 49) (v := ?_) (a' := ?_) #[true, true, true, true, false, false, false, true, true, false, false, false, false, false, false] rfl rfl (any_of HT_.out (by kernel_rfl)) (fun _ _ _ h => h) (Or.inl ⟨by rfl, ?_⟩) ?_ ?_
                          rotate_left
                          · intro w'
                            go_simp
                            with_reducible rfl
                          rotate_left
                          · simp only [Act.put, List.setIfInBounds_toArray, List.set_cons_zero, List.set_cons_succ, i64_w, i32_w]
                            rfl
                          refine pure_ (i := 9) (N := some 50) (v := ?_) (a' := ?_) #[true, true, true, true, false, false, false, true, true, true, false, false, false, false, false] rfl rfl (any_of HT_.out (by kernel_rfl)) (fun _ _ _ h => h) (Or.inl ⟨by rfl, ?_⟩) ?_ ?_
                          rotate_left
                          · intro w'
                            go_simp
                            with_reducible rfl
                          rotate_left
                          · simp only [Act.put, List.setIfInBounds_toArray, List.set_cons_zero, List.set_cons_succ, i64_w, i32_w]
                            rfl
                          refine pure_ (i := 10) (N := some 51) (v := ?_) (a' := ?_) #[true, true, true, true, false, false, false, true, true, true, true, false, false, false, false] rfl rfl (any_of HT_.out (by kernel_rfl)) (fun _ _ _ h => h) (Or.inl ⟨by rfl, ?_⟩) ?_ ?_
                          rotate_left
                          · intro w'
                            go_simp
                            with_reducible rfl
                          rotate_left
                          · simp only [Act.put, List.setIfInBounds_toArray, List.set_cons_zero, List.set_cons_succ, i64_w, i32_w]
                            rfl
                          refine pure_ (i := 11) (N := some 52) (v := ?_) (a' := ?_) #[true, true, true, true, false, false, false, true, true, true, true, true, false, false, false] rfl rfl (any_of HT_.out (by kernel_rfl)) (fun _ _ _ h => h) (Or.inl ⟨by rfl, ?_⟩) ?_ ?_
                          rotate_left
                          · intro w'
                            go_simp
                            with_reducible rfl
                          rotate_left
                          · simp only [Act.put, List.setIfInBounds_toArray, List.set_cons_zero, List.set_cons_succ, i64_w, i32_w]
                            rfl
                          refine pure_ (i := 12) (N := some 53) (v := ?_) (a' := ?_) #[true, true, true, true, false, false, false, true, true, true, true, true, true, false, false] rfl rfl (any_of HT_.out (by kernel_rfl)) (fun _ _ _ h => h) (Or.inl ⟨by rfl, ?_⟩) ?_ ?_
                          rotate_left
                          · intro w'
                            go_simp
                            with_reducible rfl
                          rotate_left
                          · simp only [Act.put, List.setIfInBounds_toArray, List.set_cons_zero, List.set_cons_succ, i64_w, i32_w]
                            rfl
                          refine join_ (σ := Value) 1 #[true, true, true, true, true, true, true, true, true, true, true, true, true, true, false] (fun s_ => [(45, .int .u16 t180), (46, s_), (47, .string (strOfNums t181)), (54, .string (strOfNums y184))]) (fun s_ w' => (Kd.R (Kd.int .u8) 5 w' w.heap.size (fun _ => True) s_ t181) ∧ (Below w.heap.size w w')) ?_ ?_
                          rotate_left
                          · intro hCont
                            refine two_ (i := 4) (j := 13) (Ni := some 45) (Nj := some 54) #[true, true, true, true, true, false, false, true, true, true, true, true, true, false, false] #[true, true, true, true, false, false, false, true, true, true, true, true, true, true, false] rfl rfl rfl rfl (two_of HT_.out (by kernel_rfl)) (by decide) (by decide) (fun K hK => ?_) (fun K hK => ?_)
                            · skip
                              refine goes_ Try.func16 (by kernel_rfl) rfl #[.slice (some ad162) y176.length c0] (by rfl) rfl rfl (by (try simp only [List.map_toArray, List.map_cons, List.map_nil]); first | done | rfl | (simp only [List.length_drop, List.length_take]; rfl)) ?_
                              with_reducible refine (tumbrelref01_Sum.calls kj4 _ _ y176 t180 _ ?side1 ?side2 A28.out).mono ?_
                              (case side1 => repeat (first | exact (Kd.C_below HR179.out HB.out) | (with_reducible refine Kd.C_alloc ?_ _) | (with_reducible refine Kd.C_drewN ?_ _) | (with_reducible refine Kd.C_drew ?_)))
                              (case side2 => exact HC179.out)
                              rintro e w' ⟨rfl, ⟨nd, rfl⟩⟩
                              refine ⟨_, rfl, ?_⟩
                              refine hK.out _ _ trivial (fun hHeld => ?_)
                              clear hK K
                              refine norm_ (a' := ?_) ?_ ?_
                              rotate_left
                              · show Act.put _ (some 45) _ = _
                                simp only [Act.put, List.setIfInBounds_toArray, List.set_cons_zero, List.set_cons_succ, i64_w, i32_w]
                                rfl
                              refine two_ (i := 5) (j := 13) (Ni := some 46) (Nj := some 54) #[true, true, true, true, true, true, false, true, true, true, true, true, true, false, false] #[true, true, true, true, true, false, false, true, true, true, true, true, true, true, false] rfl rfl rfl rfl (two_of HT_.out (by kernel_rfl)) (by decide) (by decide) (fun K hK => ?_) (fun K hK => ?_)
                              · skip
                                refine goes_ Try.func37 (by kernel_rfl) rfl #[.int .u16 t180] (by rfl) rfl rfl (by (try simp only [List.map_toArray, List.map_cons, List.map_nil]); first | done | rfl | (simp only [List.length_drop, List.length_take]; rfl)) ?_
                                with_reducible refine (tumbrelref01_two.calls t180 t181 _ A29.out).mono ?_
                                rintro e w51 ⟨v182, rfl, ho0, hb⟩
                                refine ⟨_, rfl, ?_⟩
                                have n0_ := Aside0.mk (Kd.R_lower ho0 (below_size (by repeat (first | (with_reducible first | exact HB.out | apply below_alloc | apply pw_below_drewN | apply below_drew1) | exact HB.out))))
                                have n1_ := Aside0.mk (below_step (by repeat (first | (with_reducible first | exact HB.out | apply below_alloc | apply pw_below_drewN | apply below_drew1) | exact HB.out)) hb)
                                clear HB
                                have HO183 := n0_
                                have HB := n1_
                                clear n0_ n1_
                                (try clear hb)
                                (try clear hb2)
                                (try clear hk)
                                (try clear hi)
                                (try clear ho0)
                                refine hK.out _ _ trivial (fun hHeld => ?_)
                                clear hK K
                                refine norm_ (a' := ?_) ?_ ?_
                                rotate_left
                                · show Act.put _ (some 46) _ = _
                                  simp only [Act.put, List.setIfInBounds_toArray, List.set_cons_zero, List.set_cons_succ, i64_w, i32_w]
                                  rfl
                                refine two_ (i := 6) (j := 13) (Ni := some 47) (Nj := some 54) #[true, true, true, true, true, true, true, true, true, true, true, true, true, false, false] #[true, true, true, true, true, true, false, true, true, true, true, true, true, true, false] rfl rfl rfl rfl (two_of HT_.out (by kernel_rfl)) (by decide) (by decide) (fun K hK => ?_) (fun K hK => ?_)
                                · skip
                                  have hcv52 := own_string (P := Try.prog) Try.underlying22 Try.underlying5 Try.underlying9 (Kd.own_of_R HO183.out)
                                  refine value_ (w1 := ?_) (v := ?_) (by rfl) rfl ?_ ?_
                                  rotate_left 2
                                  · go_simp
                                    constructor
                                    · rfl
                                    · rfl
                                  clear hcv52
                                  refine hK.out _ _ trivial (fun hHeld => ?_)
                                  clear hK K
                                  refine norm_ (a' := ?_) ?_ ?_
                                  rotate_left
                                  · show Act.put _ (some 47) _ = _
                                    simp only [Act.put, List.setIfInBounds_toArray, List.set_cons_zero, List.set_cons_succ, i64_w, i32_w]
                                    rfl
                                  refine one_ (i := 13) (N := some 54) #[true, true, true, true, true, true, true, true, true, true, true, true, true, true, false] rfl rfl (one_of HT_.out (by kernel_rfl)) (by decide) (fun K hK => ?_)
                                  have hcv53 := Kd.C_string (P := Try.prog) (A := A50) (c := c50) Try.underlying22 Try.underlying5 Try.underlying9 (Kd.C_below HR187.out HB.out); have hcv53d := fun m_ => Kd.C_string (P := Try.prog) (A := A50) (c := c50) Try.underlying22 Try.underlying5 Try.underlying9 (Kd.C_drewN ((Kd.C_below HR187.out HB.out)) m_)
                                  refine value_ (w1 := ?_) (v := ?_) (by rfl) rfl ?_ ?_
                                  rotate_left 2
                                  · go_simp
                                    constructor
                                    · rfl
                                    · rfl
                                  clear hcv53 hcv53d
                                  refine hK.out _ _ trivial (fun hHeld => ?_)
                                  clear hK K
                                  refine norm_ (a' := ?_) ?_ ?_
                                  rotate_left
                                  · show Act.put _ (some 54) _ = _
                                    simp only [Act.put, List.setIfInBounds_toArray, List.set_cons_zero, List.set_cons_succ, i64_w, i32_w]
                                    rfl
                                  exact norm_ (by simp only [putAll, Act.put, List.setIfInBounds_toArray, List.set_cons_zero, List.set_cons_succ]) (hCont (v182) _ ⟨(by (with_reducible repeat (first | apply Kd.R_alloc | apply Kd.R_drewN | apply Kd.R_drew)); exact HO183.out), (by repeat (first | (with_reducible first | exact HB.out | apply below_alloc | apply pw_below_drewN | apply below_drew1) | exact HB.out))⟩)
                                · skip
                                  have hcv52 := Kd.C_string (P := Try.prog) (A := A50) (c := c50) Try.underlying22 Try.underlying5 Try.underlying9 (Kd.C_below HR187.out HB.out); have hcv52d := fun m_ => Kd.C_string (P := Try.prog) (A := A50) (c := c50) Try.underlying22 Try.underlying5 Try.underlying9 (Kd.C_drewN ((Kd.C_below HR187.out HB.out)) m_)
                                  refine value_ (w1 := ?_) (v := ?_) (by rfl) rfl ?_ ?_
                                  rotate_left 2
                                  · go_simp
                                    constructor
                                    · rfl
                                    · rfl
                                  clear hcv52 hcv52d
                                  refine hK.out _ _ trivial (fun hHeld => ?_)
                                  clear hK K
                                  refine norm_ (a' := ?_) ?_ ?_
                                  rotate_left
                                  · show Act.put _ (some 54) _ = _
                                    simp only [Act.put, List.setIfInBounds_toArray, List.set_cons_zero, List.set_cons_succ, i64_w, i32_w]
                                    rfl
                                  refine one_ (i := 6) (N := some 47) #[true, true, true, true, true, true, true, true, true, true, true, true, true, true, false] rfl rfl (one_of HT_.out (by kernel_rfl)) (by decide) (fun K hK => ?_)
                                  have hcv53 := own_string (P := Try.prog) Try.underlying22 Try.underlying5 Try.underlying9 (Kd.own_of_R HO183.out)
                                  refine value_ (w1 := ?_) (v := ?_) (by rfl) rfl ?_ ?_
                                  rotate_left 2
                                  · go_simp
                                    constructor
                                    · rfl
                                    · rfl
                                  clear hcv53
                                  refine hK.out _ _ trivial (fun hHeld => ?_)
                                  clear hK K
                                  refine norm_ (a' := ?_) ?_ ?_
                                  rotate_left
                                  · show Act.put _ (some 47) _ = _
                                    simp only [Act.put, List.setIfInBounds_toArray, List.set_cons_zero, List.set_cons_succ, i64_w, i32_w]
                                    rfl
                                  exact norm_ (by simp only [putAll, Act.put, List.setIfInBounds_toArray, List.set_cons_zero, List.set_cons_succ]) (hCont (v182) _ ⟨(by (with_reducible repeat (first | apply Kd.R_alloc | apply Kd.R_drewN | apply Kd.R_drew)); exact HO183.out), (by repeat (first | (with_reducible first | exact HB.out | apply below_alloc | apply pw_below_drewN | apply below_drew1) | exact HB.out))⟩)
                              · skip
                                have hcv51 := Kd.C_string (P := Try.prog) (A := A50) (c := c50) Try.underlying22 Try.underlying5 Try.underlying9 (Kd.C_below HR187.out HB.out); have hcv51d := fun m_ => Kd.C_string (P := Try.prog) (A := A50) (c := c50) Try.underlying22 Try.underlying5 Try.underlying9 (Kd.C_drewN ((Kd.C_below HR187.out HB.out)) m_)
                                refine value_ (w1 := ?_) (v := ?_) (by rfl) rfl ?_ ?_
                                rotate_left 2
                                · go_simp
                                  constructor
                                  · rfl
                                  · rfl
                                clear hcv51 hcv51d
                                refine hK.out _ _ trivial (fun hHeld => ?_)
                                clear hK K
                                refine norm_ (a' := ?_) ?_ ?_
                                rotate_left
                                · show Act.put _ (some 54) _ = _
                                  simp only [Act.put, List.setIfInBounds_toArray, List.set_cons_zero, List.set_cons_succ, i64_w, i32_w]
                                  rfl
                                refine one_ (i := 5) (N := some 46) #[true, true, true, true, true, true, false, true, true, true, true, true, true, true, false] rfl rfl (one_of HT_.out (by kernel_rfl)) (by decide) (fun K hK => ?_)
                                refine goes_ Try.func37 (by kernel_rfl) rfl #[.int .u16 t180] (by rfl) rfl rfl (by (try simp only [List.map_toArray, List.map_cons, List.map_nil]); first | done | rfl | (simp only [List.length_drop, List.length_take]; rfl)) ?_
                                with_reducible refine (tumbrelref01_two.calls t180 t181 _ A29.out).mono ?_
                                rintro e w52 ⟨v182, rfl, ho0, hb⟩
                                refine ⟨_, rfl, ?_⟩
                                have n0_ := Aside0.mk (Kd.R_lower ho0 (below_size (by repeat (first | (with_reducible first | exact HB.out | apply below_alloc | apply pw_below_drewN | apply below_drew1) | exact HB.out))))
                                have n1_ := Aside0.mk (below_step (by repeat (first | (with_reducible first | exact HB.out | apply below_alloc | apply pw_below_drewN | apply below_drew1) | exact HB.out)) hb)
                                clear HB
                                have HO183 := n0_
                                have HB := n1_
                                clear n0_ n1_
                                (try clear hb)
                                (try clear hb2)
                                (try clear hk)
                                (try clear hi)
                                (try clear ho0)
                                refine hK.out _ _ trivial (fun hHeld => ?_)
                                clear hK K
                                refine norm_ (a' := ?_) ?_ ?_
                                rotate_left
                                · show Act.put _ (some 46) _ = _
                                  simp only [Act.put, List.setIfInBounds_toArray, List.set_cons_zero, List.set_cons_succ, i64_w, i32_w]
                                  rfl
                                refine one_ (i := 6) (N := some 47) #[true, true, true, true, true, true, true, true, true, true, true, true, true, true, false] rfl rfl (one_of HT_.out (by kernel_rfl)) (by decide) (fun K hK => ?_)
                                have hcv53 := own_string (P := Try.prog) Try.underlying22 Try.underlying5 Try.underlying9 (Kd.own_of_R HO183.out)
                                refine value_ (w1 := ?_) (v := ?_) (by rfl) rfl ?_ ?_
                                rotate_left 2
                                · go_simp
                                  constructor
                                  · rfl
                                  · rfl
                                clear hcv53
                                refine hK.out _ _ trivial (fun hHeld => ?_)
                                clear hK K
                                refine norm_ (a' := ?_) ?_ ?_
                                rotate_left
                                · show Act.put _ (some 47) _ = _
                                  simp only [Act.put, List.setIfInBounds_toArray, List.set_cons_zero, List.set_cons_succ, i64_w, i32_w]
                                  rfl
                                exact norm_ (by simp only [putAll, Act.put, List.setIfInBounds_toArray, List.set_cons_zero, List.set_cons_succ]) (hCont (v182) _ ⟨(by (with_reducible repeat (first | apply Kd.R_alloc | apply Kd.R_drewN | apply Kd.R_drew)); exact HO183.out), (by repeat (first | (with_reducible first | exact HB.out | apply below_alloc | apply pw_below_drewN | apply below_drew1) | exact HB.out))⟩)
                            · skip
                              have hcv51 := Kd.C_string (P := Try.prog) (A := A50) (c := c50) Try.underlying22 Try.underlying5 Try.underlying9 (Kd.C_below HR187.out HB.out); have hcv51d := fun m_ => Kd.C_string (P := Try.prog) (A := A50) (c := c50) Try.underlying22 Try.underlying5 Try.underlying9 (Kd.C_drewN ((Kd.C_below HR187.out HB.out)) m_)
                              refine value_ (w1 := ?_) (v := ?_) (by rfl) rfl ?_ ?_
                              rotate_left 2
                              · go_simp
                                constructor
                                · rfl
                                · rfl
                              clear hcv51 hcv51d
                              refine hK.out _ _ trivial (fun hHeld => ?_)
                              clear hK K
                              refine norm_ (a' := ?_) ?_ ?_
                              rotate_left
                              · show Act.put _ (some 54) _ = _
                                simp only [Act.put, List.setIfInBounds_toArray, List.set_cons_zero, List.set_cons_succ, i64_w, i32_w]
                                rfl
                              refine one_ (i := 4) (N := some 45) #[true, true, true, true, true, false, false, true, true, true, true, true, true, true, false] rfl rfl (one_of HT_.out (by kernel_rfl)) (by decide) (fun K hK => ?_)
                              refine goes_ Try.func16 (by kernel_rfl) rfl #[.slice (some ad162) y176.length c0] (by rfl) rfl rfl (by (try simp only [List.map_toArray, List.map_cons, List.map_nil]); first | done | rfl | (simp only [List.length_drop, List.length_take]; rfl)) ?_
                              with_reducible refine (tumbrelref01_Sum.calls kj4 _ _ y176 t180 _ ?side1 ?side2 A28.out).mono ?_
                              (case side1 => repeat (first | exact (Kd.C_below HR179.out HB.out) | (with_reducible refine Kd.C_alloc ?_ _) | (with_reducible refine Kd.C_drewN ?_ _) | (with_reducible refine Kd.C_drew ?_)))
                              (case side2 => exact HC179.out)
                              rintro e w' ⟨rfl, ⟨nd, rfl⟩⟩
                              refine ⟨_, rfl, ?_⟩
                              refine hK.out _ _ trivial (fun hHeld => ?_)
                              clear hK K
                              refine norm_ (a' := ?_) ?_ ?_
                              rotate_left
                              · show Act.put _ (some 45) _ = _
                                simp only [Act.put, List.setIfInBounds_toArray, List.set_cons_zero, List.set_cons_succ, i64_w, i32_w]
                                rfl
                              refine one_ (i := 5) (N := some 46) #[true, true, true, true, true, true, false, true, true, true, true, true, true, true, false] rfl rfl (one_of HT_.out (by kernel_rfl)) (by decide) (fun K hK => ?_)
                              refine goes_ Try.func37 (by kernel_rfl) rfl #[.int .u16 t180] (by rfl) rfl rfl (by (try simp only [List.map_toArray, List.map_cons, List.map_nil]); first | done | rfl | (simp only [List.length_drop, List.length_take]; rfl)) ?_
                              with_reducible refine (tumbrelref01_two.calls t180 t181 _ A29.out).mono ?_
                              rintro e w52 ⟨v182, rfl, ho0, hb⟩
                              refine ⟨_, rfl, ?_⟩
                              have n0_ := Aside0.mk (Kd.R_lower ho0 (below_size (by repeat (first | (with_reducible first | exact HB.out | apply below_alloc | apply pw_below_drewN | apply below_drew1) | exact HB.out))))
                              have n1_ := Aside0.mk (below_step (by repeat (first | (with_reducible first | exact HB.out | apply below_alloc | apply pw_below_drewN | apply below_drew1) | exact HB.out)) hb)
                              clear HB
                              have HO183 := n0_
                              have HB := n1_
                              clear n0_ n1_
                              (try clear hb)
                              (try clear hb2)
                              (try clear hk)
                              (try clear hi)
                              (try clear ho0)
                              refine hK.out _ _ trivial (fun hHeld => ?_)
                              clear hK K
                              refine norm_ (a' := ?_) ?_ ?_
                              rotate_left
                              · show Act.put _ (some 46) _ = _
                                simp only [Act.put, List.setIfInBounds_toArray, List.set_cons_zero, List.set_cons_succ, i64_w, i32_w]
                                rfl
                              refine one_ (i := 6) (N := some 47) #[true, true, true, true, true, true, true, true, true, true, true, true, true, true, false] rfl rfl (one_of HT_.out (by kernel_rfl)) (by decide) (fun K hK => ?_)
                              have hcv53 := own_string (P := Try.prog) Try.underlying22 Try.underlying5 Try.underlying9 (Kd.own_of_R HO183.out)
                              refine value_ (w1 := ?_) (v := ?_) (by rfl) rfl ?_ ?_
                              rotate_left 2
                              · go_simp
                                constructor
                                · rfl
                                · rfl
                              clear hcv53
                              refine hK.out _ _ trivial (fun hHeld => ?_)
                              clear hK K
                              refine norm_ (a' := ?_) ?_ ?_
                              rotate_left
                              · show Act.put _ (some 47) _ = _
                                simp only [Act.put, List.setIfInBounds_toArray, List.set_cons_zero, List.set_cons_succ, i64_w, i32_w]
                                rfl
                              exact norm_ (by simp only [putAll, Act.put, List.setIfInBounds_toArray, List.set_cons_zero, List.set_cons_succ]) (hCont (v182) _ ⟨(by (with_reducible repeat (first | apply Kd.R_alloc | apply Kd.R_drewN | apply Kd.R_drew)); exact HO183.out), (by repeat (first | (with_reducible first | exact HB.out | apply below_alloc | apply pw_below_drewN | apply below_drew1) | exact HB.out))⟩)
                          rintro v182 w54 ⟨h0_, h1_⟩
                          have n0_ : Aside0 (Kd.R (Kd.int .u8) 5 w54 w.heap.size (fun _ => True) v182 t181) := ⟨h0_⟩
                          have n1_ : Aside0 (Below w.heap.size w w54) := ⟨h1_⟩
                          clear HB
                          clear h0_ h1_
                          have HO183 := n0_
                          have HB := n1_
                          clear n0_ n1_
                          have hHeld := trivial
                          refine norm_ (a' := ?_) ?_ ?_
                          rotate_left
                          · simp only [putAll, Act.put, List.setIfInBounds_toArray, List.set_cons_zero, List.set_cons_succ]
                            rfl
                          refine pure_ (i := 14) (N := some 55) (v := ?_) (a' := ?_) #[true, true, true, true, true, true, true, true, true, true, true, true, true, true, true] rfl rfl (any_of HT_.out (by kernel_rfl)) (fun _ _ _ h => h) (Or.inl ⟨by rfl, ?_⟩) ?_ ?_
                          rotate_left
                          · intro w'
                            go_simp
                            with_reducible rfl
                          rotate_left
                          · simp only [Act.put, List.setIfInBounds_toArray, List.set_cons_zero, List.set_cons_succ, i64_w, i32_w]
                            rfl
                          refine done_ (done_of HT_.out (by kernel_rfl)) ?_
                          try go_wp2
                          go_ret3
                          exact ⟨_, by first | rfl | (simp [errW_none, errW_some] <;> rfl) | (simp only [← hji25]; first | rfl | (simp [errW_none, errW_some] <;> rfl)) | (simp [*, errW_none, errW_some] <;> rfl), by first | exact Kd.R_nil _ _ _ _ _ | exact Kd.N_nil _ _ _ _ _ | exact Kd.V_nil _ _ _ _ _ | exact Kd.Q_nil _ _ _ _ _ | exact Kd.S_nil _ _ _ _ _, by repeat (first | (with_reducible first | exact HB.out | apply below_alloc | apply pw_below_drewN | apply below_drew1) | exact HB.out)⟩
                      · rw [if_neg c32] at H
                        exact absurd H (by simp)
                    · rw [if_neg c31] at H
                      exact absurd H (by simp)
                  · rw [if_neg c27] at H
                    exact absurd H (by simp)
                · rw [if_neg c26] at H
                  exact absurd H (by simp)
      · rw [if_neg c4] at H
        exact absurd H (by simp)
    · rw [if_neg c3] at H
      exact absurd H (by simp)

end Go.Proofs.Ytbfmndikbbfcdaa.PSealOpens
