-- Written by fprint.py (wip), by way of the printer's functions; where they are turned, by texts of mine.
import Derived.Test.YtdglbiafpofeeaaPOutboxDecodesx0
import Derived.Test.YtdglbiafpofeeaaPOutboxDecodesx8
namespace Go.Proofs.Ytdglbiafpofeeaa.POutboxDecodes
open Go.RowKit Go.Proofs.YtdglbiafpofeeaaW.PrintWords Go.Proofs.YtdglbiafpofeeaaW.PrintLast Go.Proofs.YtdglbiafpofeeaaW.PrintMore
attribute [local go_sem] max2_int min2_int max_two min_two max_three min_three max_four min_four   -- for this text's walks alone
set_option linter.unusedVariables false
set_option linter.unusedSimpArgs false
theorem kz9_1 {p_ : Prop} (h_ : p_ := by repeat (first | (with_reducible first | exact HB.out | apply below_alloc | apply pw_below_drewN | apply below_drew1) | exact HB.out)) : p_ := h_
theorem kz9_2 {p_ : Prop} (h_ : p_ := by (try simp only [List.map_toArray, List.map_cons, List.map_nil]); first | done | rfl | (simp only [List.length_drop, List.length_take]; rfl)) : p_ := h_
theorem kz9_3 {p_ : Prop} (h_ : p_ := by (with_reducible repeat (first | apply Kd.R_alloc | apply Kd.R_drewN | apply Kd.R_drew)); exact HO357.out) : p_ := h_
theorem kz9_4 {p_ : Prop} (h_ : p_ := by first | (with_reducible assumption) | assumption) : p_ := h_
theorem kz9_5 {p_ : Prop} (h_ : p_ := by simp only [putAll, Act.put, sA_, sB_, sC_]) : p_ := h_
theorem kz9_6 {p_ : Prop} (h_ : p_ := by (with_reducible repeat (first | apply Kd.R_alloc | apply Kd.R_drewN | apply Kd.R_drew)); exact HO345.out) : p_ := h_

/-! ### tumbrelref01_Open: function 64 -/
def tumbrelref01_Open.j0 : Nat → List Int → Int → Bool → Option (List Int × Int × Int)
 | 0, _, _, _ => none
 | k + 1, x0, x5, x35 => if x35 = true then (some (([] : List Int), 0, 9)) else (if (x0.length : Int) < (wrap64 (6 + x5)) then (some (([] : List Int), 0, 5)) else (if 0 ≤ (wrap64 (4 + x5)) then (if (wrap64 (4 + x5)) ≤ (x0.length : Int) then ((tumbrelref01_Sum.f k (x0.take ((wrap64 (4 + x5)) : Int).toNat)).bind fun t354 => ((tumbrelref01_two.f t354).bind fun t355 => (if (wrap64 (4 + x5)) ≤ (wrap64 (6 + x5)) then (if (wrap64 (6 + x5)) ≤ (x0.length : Int) then (if (strOfNums t355).toList = (strOfNums ((x0.take ((wrap64 (6 + x5)) : Int).toNat).drop ((wrap64 (4 + x5)) : Int).toNat)).toList then ((some (([] : List Int) : List Int)).bind fun y362 => (if 4 ≤ (wrap64 (4 + x5)) then ((some ((x0.take ((wrap64 (4 + x5)) : Int).toNat).drop 4 : List Int)).bind fun y365 => (if y362.length + y365.length < 140737488355328 then (some ((y362 ++ y365), wrap64 (6 + x5), 0)) else (none))) else (none))) else (some (([] : List Int), 0, 9))) else (none)) else (none)))) else (none)) else (none)))
def tumbrelref01_Open.f (k : Nat) (l0 : List Int) : Option (List Int × Int × Int) := if (l0.length : Int) < 4 then (some (([] : List Int), 0, 5)) else (if 0 < (l0.length : Int) then (if 1 < (l0.length : Int) then (if (Go.bits .or .i64 (wrap64 ((wrap64 (rd l0 0)) * 256)) (wrap64 (rd l0 1))) < 1 then (tumbrelref01_Open.j0 k l0 (Go.bits .or .i64 (wrap64 ((wrap64 (rd l0 0)) * 256)) (wrap64 (rd l0 1))) true) else (if (Go.bits .or .i64 (wrap64 ((wrap64 (rd l0 0)) * 256)) (wrap64 (rd l0 1))) > 14000 then (tumbrelref01_Open.j0 k l0 (Go.bits .or .i64 (wrap64 ((wrap64 (rd l0 0)) * 256)) (wrap64 (rd l0 1))) true) else (if 2 ≤ (l0.length : Int) then ((tumbrelref01_Sum.f k (l0.take 2)).bind fun t342 => ((tumbrelref01_two.f t342).bind fun t343 => (if 4 ≤ (l0.length : Int) then (tumbrelref01_Open.j0 k l0 (Go.bits .or .i64 (wrap64 ((wrap64 (rd l0 0)) * 256)) (wrap64 (rd l0 1))) ((strOfNums t343).toList != (strOfNums ((l0.take 4).drop 2)).toList)) else (none)))) else (none)))) else (none)) else (none))
theorem tumbrelref01_Open.mono_l : ∀ k, (∀ y0 y1 y2, LeO (tumbrelref01_Open.j0 k y0 y1 y2) (tumbrelref01_Open.j0 (k + 1) y0 y1 y2))
 | 0 => fun _ _ _ r h => by simp [tumbrelref01_Open.j0] at h
 | k + 1 => by
  have ih0 := tumbrelref01_Open.mono_l k
  ·intro y0 y1 y2
   unfold tumbrelref01_Open.j0
   repeat' first
   | (with_reducible exact ih0 _ _ _)
   | (with_reducible exact tumbrelref01_Sum.mono _ _)
   | (with_reducible exact LeO.refl _)
   | (with_reducible exact LeO.none _)
   | (with_reducible refine LeO.ite ?_ ?_)
   | (with_reducible refine LeO.bind ?_ (fun _ => ?_))
   | exact ih0 _ _ _
   | exact tumbrelref01_Sum.mono _ _
   | exact LeO.none _
   | refine LeO.ite ?_ ?_
   | refine LeO.bind ?_ (fun _ => ?_)
theorem tumbrelref01_Open.mono : ∀ a0 k, LeO (tumbrelref01_Open.f k a0) (tumbrelref01_Open.f (k + 1) a0) := by
 intro a0 k
 have ih0 := tumbrelref01_Open.mono_l k
 unfold tumbrelref01_Open.f
 repeat' first
   | (with_reducible exact ih0 _ _ _)
   | (with_reducible exact tumbrelref01_Sum.mono _ _)
   | (with_reducible exact LeO.refl _)
   | (with_reducible exact LeO.none _)
   | (with_reducible refine LeO.ite ?_ ?_)
   | (with_reducible refine LeO.bind ?_ (fun _ => ?_))
   | exact ih0 _ _ _
   | exact tumbrelref01_Sum.mono _ _
   | exact LeO.none _
   | refine LeO.ite ?_ ?_
   | refine LeO.bind ?_ (fun _ => ?_)
def tumbrelref01_Open.T3 : Bool × List (List Nat × List Nat) := (true, [([], []), ([0], [0]), ([1], [1]), ([2], [2]), ([3], [3]), ([], []), ([5], [5]), ([6], [6]), ([7], [7]), ([4, 8], [4, 8]), ([9, 0, 1, 2, 3, 4, 5, 6, 7, 8, 9], [9])])
def tumbrelref01_Open.B3 : List Nat := [0, 1, 3, 7, 15, 0, 32, 96, 224, 511, 1023]
theorem tumbrelref01_Open.tab3 : rtab .any (opsOf Try.f64 3) = tumbrelref01_Open.T3 := by kernel_rfl
theorem tumbrelref01_Open.bits3 : waitsOk tumbrelref01_Open.T3.2 tumbrelref01_Open.B3 = true := by kernel_rfl
def tumbrelref01_Open.T4 : Bool × List (List Nat × List Nat) := (true, [([], []), ([0], [0]), ([1], [1]), ([2], [2]), ([3, 2], [2, 3]), ([2, 4], [2, 4]), ([5, 2], [5]), ([6], [6]), ([7, 6], [6, 7]), ([8, 6, 6], [6, 8]), ([9, 9, 6], [6, 9]), ([10, 6], [6, 10]), ([6], [6]), ([12, 6], [6, 12]), ([13, 6], [6, 13]), ([11, 14, 6], [6, 11, 14]), ([6, 15], [6, 15])])
def tumbrelref01_Open.B4 : List Nat := [0, 1, 3, 7, 15, 31, 63, 127, 255, 511, 1023, 2047, 127, 4223, 12415, 32767, 65535]
theorem tumbrelref01_Open.tab4 : rtab .any (opsOf Try.f64 4) = tumbrelref01_Open.T4 := by kernel_rfl
theorem tumbrelref01_Open.bits4 : waitsOk tumbrelref01_Open.T4.2 tumbrelref01_Open.B4 = true := by kernel_rfl
def tumbrelref01_Open.T8 : Bool × List (List Nat × List Nat) := (true, [([], []), ([], []), ([1], [1]), ([0, 2], [0, 2]), ([3], [3]), ([4, 4], [4]), ([5], [5]), ([], []), ([], []), ([8], [8]), ([], []), ([10], [10]), ([7, 9, 11], [7, 9, 11]), ([12], [12]), ([6, 13], [6, 13])])
def tumbrelref01_Open.B8 : List Nat := [0, 0, 2, 7, 15, 31, 63, 0, 0, 256, 0, 1024, 3968, 8064, 16383]
theorem tumbrelref01_Open.tab8 : rtab .any (opsOf Try.f64 8) = tumbrelref01_Open.T8 := by kernel_rfl
theorem tumbrelref01_Open.bits8 : waitsOk tumbrelref01_Open.T8.2 tumbrelref01_Open.B8 = true := by kernel_rfl
set_option maxHeartbeats 8000000 in
set_option maxRecDepth 100000 in
theorem tumbrelref01_Open.calls (k : Nat) (A0 : Option Addr) (c0 : Nat) (l0 : List Int) (r1 : List Int) (r2 : Int) (r3 : Int) (w : World) (hr0 : Kd.C (Kd.int .u8) w A0 l0.length l0) (hc0 : l0.length ≤ c0) (h : tumbrelref01_Open.f k l0 = some (r1, r2, r3)) :
  Calls Try.prog 64 #[.slice A0 l0.length c0] w fun e w' => ∃ v0_ : Value, e = .returned (.tuple #[v0_, .int .i64 r2, .int .i64 r3]) ∧ Kd.R (Kd.int .u8) 5 w' w.heap.size (fun _ => True) v0_ r1 ∧ Below w.heap.size w w' := by
 have HR0 := Aside0.mk hr0
 have HC0 := Aside0.mk hc0
 clear hr0 hc0
 have HB := Aside0.mk (Below.refl w.heap.size w)
 have H : (if (l0.length : Int) < 4 then (some (([] : List Int), 0, 5)) else (if 0 < (l0.length : Int) then (if 1 < (l0.length : Int) then (if (Go.bits .or .i64 (wrap64 ((wrap64 (rd l0 0)) * 256)) (wrap64 (rd l0 1))) < 1 then (tumbrelref01_Open.j0 k l0 (Go.bits .or .i64 (wrap64 ((wrap64 (rd l0 0)) * 256)) (wrap64 (rd l0 1))) true) else (if (Go.bits .or .i64 (wrap64 ((wrap64 (rd l0 0)) * 256)) (wrap64 (rd l0 1))) > 14000 then (tumbrelref01_Open.j0 k l0 (Go.bits .or .i64 (wrap64 ((wrap64 (rd l0 0)) * 256)) (wrap64 (rd l0 1))) true) else (if 2 ≤ (l0.length : Int) then ((tumbrelref01_Sum.f k (l0.take 2)).bind fun t342 => ((tumbrelref01_two.f t342).bind fun t343 => (if 4 ≤ (l0.length : Int) then (tumbrelref01_Open.j0 k l0 (Go.bits .or .i64 (wrap64 ((wrap64 (rd l0 0)) * 256)) (wrap64 (rd l0 1))) ((strOfNums t343).toList != (strOfNums ((l0.take 4).drop 2)).toList)) else (none)))) else (none)))) else (none)) else (none))) = some (r1, r2, r3) := h
 clear h
 by_cases c2 : (l0.length : Int) < 4
 ·rw [if_pos c2] at H
  have c2b0 : decide ((l0.length : Int) < 4) = true := decide_eq_true c2
  have c2b1 : decide (l0.length < 4) = true := decide_eq_true (by omega)
  clear c2
  simp only [Option.some.injEq, Prod.mk.injEq] at H
  obtain ⟨rfl, rfl, rfl⟩ := H
  go_enter Try.func64, Try.ntmps64
  go_wp2
  go_ret3
  exact ⟨_, by first | rfl | (simp [errW_none, errW_some] <;> rfl) | (simp [*, errW_none, errW_some] <;> rfl), by first | exact Kd.R_nil _ _ _ _ _ | exact Kd.N_nil _ _ _ _ _ | exact Kd.V_nil _ _ _ _ _ | exact Kd.Q_nil _ _ _ _ _ | exact Kd.S_nil _ _ _ _ _, by repeat (first | (with_reducible first | exact HB.out | apply below_alloc | apply pw_below_drewN | apply below_drew1) | exact HB.out)⟩
 ·rw [if_neg c2] at H
  have c2b0 : decide ((l0.length : Int) < 4) = false := decide_eq_false c2
  have c2b1 : decide (l0.length < 4) = false := decide_eq_false (by omega)
  clear c2
  by_cases c3 : 0 < (l0.length : Int)
  ·rw [if_pos c3] at H
   have c3b0 : decide (0 < (l0.length : Int)) = true := decide_eq_true c3
   have c3b1 : decide (0 < l0.length) = true := decide_eq_true (by omega)
   clear c3
   by_cases c4 : 1 < (l0.length : Int)
   ·rw [if_pos c4] at H
    have c4b0 : decide (1 < (l0.length : Int)) = true := decide_eq_true c4
    have c4b1 : decide (1 < l0.length) = true := decide_eq_true (by omega)
    clear c4
    have HC5 := Aside0.mk H
    clear H
    go_enter Try.func64, Try.ntmps64
    try go_wp2
    have n0_ := Aside0.mk (below_drew1 HB.out)
    clear HB
    have HB := n0_
    clear n0_
    have p336 : 0 ≤ (0 : Int) := (by omega)
    have q336 : 0 < (l0.length : Int) := of_decide_eq_true kz9_4
    obtain ⟨ad336, e336, hx336_0⟩ := Kd.at_int HR0.out 0 p336 q336
    have hw336_0 := hx336_0
    (try rw [show ((0 : Int)).toNat = 0 from rfl] at hw336_0)
    (try rw [show 0 * 1 = 0 from rfl] at hw336_0)
    (try rw [Addr.add_zero'] at hw336_0)
    cases e336
    have qi336 : (0 < l0.length) = True := eq_true (by omega)
    (try rw [show ((0 : Int)).toNat = 0 from rfl] at hx336_0)
    (try rw [Addr.add_zero'] at hx336_0)
    replace hx336_0 := (HB.out.cell (World.block_lt_of_cell? w _ hx336_0)).trans hx336_0
    replace p336 := eq_true p336
    replace q336 := eq_true q336
    have p337 : 0 ≤ (1 : Int) := (by omega)
    have q337 : 1 < (l0.length : Int) := of_decide_eq_true kz9_4
    obtain ⟨ad337, e337, hx337_0⟩ := Kd.at_int HR0.out 1 p337 q337
    have hw337_0 := hx337_0
    (try rw [show ((1 : Int)).toNat = 1 from rfl] at hw337_0)
    (try rw [show 1 * 1 = 1 from rfl] at hw337_0)
    (try simp only [Nat.reduceMul, Nat.reduceEqDiff, Go.Addr.add, ↓reduceIte] at hw337_0)
    obtain rfl : ad336 = ad337 := (by injection e337)
    (try simp only [show (1 : Int).toNat = 1 from rfl, Nat.reduceMul, Nat.reduceEqDiff, Go.Addr.add, ↓reduceIte] at hx337_0)
    have qi337 : (1 < l0.length) = True := eq_true (by omega)
    (try rw [show ((1 : Int)).toNat = 1 from rfl] at hx337_0)
    replace hx337_0 := (HB.out.cell (World.block_lt_of_cell? w _ hx337_0)).trans hx337_0
    replace p337 := eq_true p337
    replace q337 := eq_true q337
    refine start_ (n := 11) (S := fun w' => w'.cell? ad336 = some (.int .u8 (rd l0 0)) ∧ w'.cell? ⟨ad336.block, ad336.off + 1, none⟩ = some (.int .u8 (rd l0 1))) (ds := []) #[false, false, false, false, false, false, false, false, false, false, false] (by kernel_rfl) rfl rfl ⟨((HB.out.cell (World.block_lt_of_cell? w _ hw336_0)).trans hw336_0), ((HB.out.cell (World.block_lt_of_cell? w _ hw337_0)).trans hw337_0)⟩ (fun hHeld => ?_); refine with_tabW tumbrelref01_Open.tab3 tumbrelref01_Open.bits3 (fun HT_ HW_ => ?_)
    generalize w.drew = w6 at HB hx336_0 hx337_0 hHeld ⊢
    refine pure_ (i := 0) (N := some 9) (v := ?_) (a' := ?_) #[true, false, false, false, false, false, false, false, false, false, false] rfl rfl (any_of HT_.out (by kernel_rfl)) (fun _ _ _ h => h) (Or.inl ⟨by rfl, ?_⟩) ?_ ?_
    rotate_left
    ·intro w'
     go_simp
     with_reducible rfl
    rotate_left
    ·simp only [Act.put, sA_, sB_, sC_, i64_w, i32_w]
     rfl
    refine pure_ (i := 1) (N := some 10) (v := ?_) (a' := ?_) #[true, true, false, false, false, false, false, false, false, false, false] rfl rfl (any_of HT_.out (by kernel_rfl)) (fun _ _ _ h => h) (Or.inl ⟨by rfl, ?_⟩) ?_ ?_
    rotate_left
    ·intro w'
     go_simp
     with_reducible rfl
    rotate_left
    ·simp only [Act.put, sA_, sB_, sC_, i64_w, i32_w]
     rfl
    refine pure_ (i := 5) (N := some 14) (v := ?_) (a' := ?_) #[true, true, false, false, false, true, false, false, false, false, false] rfl rfl (any_of HT_.out (by kernel_rfl)) (fun _ _ _ h => h) (Or.inl ⟨by rfl, ?_⟩) ?_ ?_
    rotate_left
    ·intro w'
     go_simp
     with_reducible rfl
    rotate_left
    ·simp only [Act.put, sA_, sB_, sC_, i64_w, i32_w]
     rfl
    refine pure_ (i := 6) (N := some 15) (v := ?_) (a' := ?_) #[true, true, false, false, false, true, true, false, false, false, false] rfl rfl (any_of HT_.out (by kernel_rfl)) (fun _ _ _ h => h) (Or.inl ⟨by rfl, ?_⟩) ?_ ?_
    rotate_left
    ·intro w'
     go_simp
     with_reducible rfl
    rotate_left
    ·simp only [Act.put, sA_, sB_, sC_, i64_w, i32_w]
     rfl
    refine take_ (i := 2) (N := some 11) (v := ?_) (a' := ?_) #[true, true, true, false, false, true, true, false, false, false, false] rfl rfl (take_ofW HT_.out HW_.out (by kernel_rfl)) (fun _ _ _ h => h) (Or.inl ⟨by rfl, ?_⟩) hHeld ?_ ?_
    rotate_left
    ·rintro w' ⟨s0, s1⟩
     go_simp
     with_reducible rfl
    rotate_left
    ·simp only [Act.put, sA_, sB_, sC_, i64_w, i32_w]
     rfl
    refine pure_ (i := 3) (N := some 12) (v := ?_) (a' := ?_) #[true, true, true, true, false, true, true, false, false, false, false] rfl rfl (any_of HT_.out (by kernel_rfl)) (fun _ _ _ h => h) (Or.inl ⟨by rfl, ?_⟩) ?_ ?_
    rotate_left
    ·intro w'
     go_simp
     with_reducible rfl
    rotate_left
    ·simp only [Act.put, sA_, sB_, sC_, i64_w, i32_w]
     rfl
    refine pure_ (i := 4) (N := some 13) (v := ?_) (a' := ?_) #[true, true, true, true, true, true, true, false, false, false, false] rfl rfl (any_of HT_.out (by kernel_rfl)) (fun _ _ _ h => h) (Or.inl ⟨by rfl, ?_⟩) ?_ ?_
    rotate_left
    ·intro w'
     go_simp
     with_reducible rfl
    rotate_left
    ·simp only [Act.put, sA_, sB_, sC_, i64_w, i32_w]
     rfl
    refine take_ (i := 7) (N := some 16) (v := ?_) (a' := ?_) #[true, true, true, true, true, true, true, true, false, false, false] rfl rfl (take_ofW HT_.out HW_.out (by kernel_rfl)) (fun _ _ _ h => h) (Or.inl ⟨by rfl, ?_⟩) hHeld ?_ ?_
    rotate_left
    ·rintro w' ⟨s0, s1⟩
     go_simp
     with_reducible rfl
    rotate_left
    ·simp only [Act.put, sA_, sB_, sC_, i64_w, i32_w]
     rfl
    refine pure_ (i := 8) (N := some 17) (v := ?_) (a' := ?_) #[true, true, true, true, true, true, true, true, true, false, false] rfl rfl (any_of HT_.out (by kernel_rfl)) (fun _ _ _ h => h) (Or.inl ⟨by rfl, ?_⟩) ?_ ?_
    rotate_left
    ·intro w'
     go_simp
     with_reducible rfl
    rotate_left
    ·simp only [Act.put, sA_, sB_, sC_, i64_w, i32_w]
     rfl
    refine pure_ (i := 9) (N := some 18) (v := ?_) (a' := ?_) #[true, true, true, true, true, true, true, true, true, true, false] rfl rfl (any_of HT_.out (by kernel_rfl)) (fun _ _ _ h => h) (Or.inl ⟨by rfl, ?_⟩) ?_ ?_
    rotate_left
    ·intro w'
     go_simp
     with_reducible rfl
    rotate_left
    ·simp only [Act.put, sA_, sB_, sC_, i64_w, i32_w]
     rfl
    refine pure_ (i := 10) (N := some 5) (v := ?_) (a' := ?_) #[true, true, true, true, true, true, true, true, true, true, true] rfl rfl (any_of HT_.out (by kernel_rfl)) (fun _ _ _ h => h) (Or.inl ⟨by rfl, ?_⟩) ?_ ?_
    rotate_left
    ·intro w'
     go_simp
     with_reducible rfl
    rotate_left
    ·simp only [Act.put, sA_, sB_, sC_, i64_w, i32_w]
     rfl
    refine done_ (done_of HT_.out (by kernel_rfl)) ?_
    go_upto_region 4 with (fail)
    go_cut [35] (fun v35 wc => ∃ (kq : Nat) (x35_4 : Bool), v35 = .bool x35_4 ∧ Aside0 (tumbrelref01_Open.j0 kq l0 (Go.bits .or .i64 (wrap64 ((wrap64 (rd l0 0)) * 256)) (wrap64 (rd l0 1))) x35_4 = some (r1, r2, r3)) ∧ Aside0 (kq ≤ k) ∧ Aside0 (Below w.heap.size w wc))
    case first =>
     have H := HC5.out
     clear HC5
     by_cases c7 : (Go.bits .or .i64 (wrap64 ((wrap64 (rd l0 0)) * 256)) (wrap64 (rd l0 1))) < 1
     ·rw [if_pos c7] at H
      have c7b0 : decide ((Go.bits .or .i64 (wrap64 ((wrap64 (rd l0 0)) * 256)) (wrap64 (rd l0 1))) < 1) = true := decide_eq_true c7
      clear c7
      (first | rw [c7b0] | (simp only [i64_w, i32_w]; rw [c7b0]) | skip)
      have H' := Aside0.mk H
      clear H
      try go_wp2
      have n0_ := Aside0.mk (below_drew1 HB.out)
      clear HB
      have HB := n0_
      clear n0_
      refine start_ (n := 17) (S := fun w' => True) (ds := []) #[false, false, false, false, false, false, false, false, false, false, false, false, false, false, false, false, false] (by kernel_rfl) rfl rfl trivial (fun hHeld => ?_); refine with_tabW tumbrelref01_Open.tab4 tumbrelref01_Open.bits4 (fun HT_ HW_ => ?_)
      generalize w6.drew = w8 at HB hHeld ⊢
      refine pure_ (i := 0) (N := some 19) (v := ?_) (a' := ?_) #[true, false, false, false, false, false, false, false, false, false, false, false, false, false, false, false, false] rfl rfl (any_of HT_.out (by kernel_rfl)) (fun _ _ _ h => h) (Or.inl ⟨by rfl, ?_⟩) ?_ ?_
      rotate_left
      ·intro w'
       go_simp
       with_reducible rfl
      rotate_left
      ·simp only [Act.put, sA_, sB_, sC_, i64_w, i32_w]
       rfl
      refine pure_ (i := 1) (N := some 20) (v := ?_) (a' := ?_) #[true, true, false, false, false, false, false, false, false, false, false, false, false, false, false, false, false] rfl rfl (any_of HT_.out (by kernel_rfl)) (fun _ _ _ h => h) (Or.inl ⟨by rfl, ?_⟩) ?_ ?_
      rotate_left
      ·intro w'
       go_simp
       with_reducible rfl
      rotate_left
      ·simp only [Act.put, sA_, sB_, sC_, i64_w, i32_w]
       rfl
      refine pure_ (i := 2) (N := some 21) (v := ?_) (a' := ?_) #[true, true, true, false, false, false, false, false, false, false, false, false, false, false, false, false, false] rfl rfl (any_of HT_.out (by kernel_rfl)) (fun _ _ _ h => h) (Or.inl ⟨by rfl, ?_⟩) ?_ ?_
      rotate_left
      ·intro w'
       go_simp
       with_reducible rfl
      rotate_left
      ·simp only [Act.put, sA_, sB_, sC_, i64_w, i32_w]
       rfl
      refine pure_ (i := 3) (N := some 22) (v := undef) (a' := ?_) #[true, true, true, true, false, false, false, false, false, false, false, false, false, false, false, false, false] rfl rfl (any_of HT_.out (by kernel_rfl)) (fun _ _ _ h => h) (Or.inr ⟨by rfl, rfl⟩) ?_ ?_
      rotate_left
      ·simp only [Act.put, sA_, sB_, sC_, i64_w, i32_w]
       rfl
      refine pure_ (i := 4) (N := some 23) (v := undef) (a' := ?_) #[true, true, true, true, true, false, false, false, false, false, false, false, false, false, false, false, false] rfl rfl (any_of HT_.out (by kernel_rfl)) (fun _ _ _ h => h) (Or.inr ⟨by rfl, rfl⟩) ?_ ?_
      rotate_left
      ·simp only [Act.put, sA_, sB_, sC_, i64_w, i32_w]
       rfl
      refine pure_ (i := 5) (N := some 24) (v := ?_) (a' := ?_) #[true, true, true, true, true, true, false, false, false, false, false, false, false, false, false, false, false] rfl rfl (any_of HT_.out (by kernel_rfl)) (fun _ _ _ h => h) (Or.inl ⟨by rfl, ?_⟩) ?_ ?_
      rotate_left
      ·intro w'
       go_simp
       with_reducible rfl
      rotate_left
      ·simp only [Act.put, sA_, sB_, sC_, i64_w, i32_w]
       rfl
      refine pure_ (i := 6) (N := some 25) (v := ?_) (a' := ?_) #[true, true, true, true, true, true, true, false, false, false, false, false, false, false, false, false, false] rfl rfl (any_of HT_.out (by kernel_rfl)) (fun _ _ _ h => h) (Or.inl ⟨by rfl, ?_⟩) ?_ ?_
      rotate_left
      ·intro w'
       go_simp
       with_reducible rfl
      rotate_left
      ·simp only [Act.put, sA_, sB_, sC_, i64_w, i32_w]
       rfl
      refine pure_ (i := 7) (N := some 26) (v := undef) (a' := ?_) #[true, true, true, true, true, true, true, true, false, false, false, false, false, false, false, false, false] rfl rfl (any_of HT_.out (by kernel_rfl)) (fun _ _ _ h => h) (Or.inr ⟨by rfl, rfl⟩) ?_ ?_
      rotate_left
      ·simp only [Act.put, sA_, sB_, sC_, i64_w, i32_w]
       rfl
      refine pure_ (i := 8) (N := some 27) (v := undef) (a' := ?_) #[true, true, true, true, true, true, true, true, true, false, false, false, false, false, false, false, false] rfl rfl (any_of HT_.out (by kernel_rfl)) (fun _ _ _ h => h) (Or.inr ⟨by rfl, rfl⟩) ?_ ?_
      rotate_left
      ·simp only [Act.put, sA_, sB_, sC_, i64_w, i32_w]
       rfl
      refine pure_ (i := 9) (N := some 28) (v := undef) (a' := ?_) #[true, true, true, true, true, true, true, true, true, true, false, false, false, false, false, false, false] rfl rfl (any_of HT_.out (by kernel_rfl)) (fun _ _ _ h => h) (Or.inr ⟨by rfl, rfl⟩) ?_ ?_
      rotate_left
      ·simp only [Act.put, sA_, sB_, sC_, i64_w, i32_w]
       rfl
      refine pure_ (i := 10) (N := some 29) (v := undef) (a' := ?_) #[true, true, true, true, true, true, true, true, true, true, true, false, false, false, false, false, false] rfl rfl (any_of HT_.out (by kernel_rfl)) (fun _ _ _ h => h) (Or.inr ⟨by rfl, rfl⟩) ?_ ?_
      rotate_left
      ·simp only [Act.put, sA_, sB_, sC_, i64_w, i32_w]
       rfl
      refine pure_ (i := 11) (N := some 30) (v := undef) (a' := ?_) #[true, true, true, true, true, true, true, true, true, true, true, true, false, false, false, false, false] rfl rfl (any_of HT_.out (by kernel_rfl)) (fun _ _ _ h => h) (Or.inr ⟨by rfl, rfl⟩) ?_ ?_
      rotate_left
      ·simp only [Act.put, sA_, sB_, sC_, i64_w, i32_w]
       rfl
      refine pure_ (i := 12) (N := some 31) (v := undef) (a' := ?_) #[true, true, true, true, true, true, true, true, true, true, true, true, true, false, false, false, false] rfl rfl (any_of HT_.out (by kernel_rfl)) (fun _ _ _ h => h) (Or.inr ⟨by rfl, rfl⟩) ?_ ?_
      rotate_left
      ·simp only [Act.put, sA_, sB_, sC_, i64_w, i32_w]
       rfl
      refine pure_ (i := 13) (N := some 32) (v := undef) (a' := ?_) #[true, true, true, true, true, true, true, true, true, true, true, true, true, true, false, false, false] rfl rfl (any_of HT_.out (by kernel_rfl)) (fun _ _ _ h => h) (Or.inr ⟨by rfl, rfl⟩) ?_ ?_
      rotate_left
      ·simp only [Act.put, sA_, sB_, sC_, i64_w, i32_w]
       rfl
      refine pure_ (i := 14) (N := some 33) (v := undef) (a' := ?_) #[true, true, true, true, true, true, true, true, true, true, true, true, true, true, true, false, false] rfl rfl (any_of HT_.out (by kernel_rfl)) (fun _ _ _ h => h) (Or.inr ⟨by rfl, rfl⟩) ?_ ?_
      rotate_left
      ·simp only [Act.put, sA_, sB_, sC_, i64_w, i32_w]
       rfl
      refine pure_ (i := 15) (N := some 34) (v := undef) (a' := ?_) #[true, true, true, true, true, true, true, true, true, true, true, true, true, true, true, true, false] rfl rfl (any_of HT_.out (by kernel_rfl)) (fun _ _ _ h => h) (Or.inr ⟨by rfl, rfl⟩) ?_ ?_
      rotate_left
      ·simp only [Act.put, sA_, sB_, sC_, i64_w, i32_w]
       rfl
      refine pure_ (i := 16) (N := some 35) (v := ?_) (a' := ?_) #[true, true, true, true, true, true, true, true, true, true, true, true, true, true, true, true, true] rfl rfl (any_of HT_.out (by kernel_rfl)) (fun _ _ _ h => h) (Or.inl ⟨by rfl, ?_⟩) ?_ ?_
      rotate_left
      ·intro w'
       go_simp
       with_reducible rfl
      rotate_left
      ·simp only [Act.put, sA_, sB_, sC_, i64_w, i32_w]
       rfl
      refine done_ (done_of HT_.out (by kernel_rfl)) ?_
      try go_wp2
      go_meet
      case rel => exact ⟨_, (true), (by first | rfl | (simp; done) | (simp [*]; done)), H', ⟨by first | omega | exact Nat.le_refl _⟩, ⟨by repeat (first | (with_reducible first | exact HB.out | apply below_alloc | apply pw_below_drewN | apply below_drew1) | exact HB.out)⟩⟩
     ·rw [if_neg c7] at H
      have c7b0 : decide ((Go.bits .or .i64 (wrap64 ((wrap64 (rd l0 0)) * 256)) (wrap64 (rd l0 1))) < 1) = false := decide_eq_false c7
      clear c7
      (first | rw [c7b0] | (simp only [i64_w, i32_w]; rw [c7b0]) | skip)
      by_cases c9 : (Go.bits .or .i64 (wrap64 ((wrap64 (rd l0 0)) * 256)) (wrap64 (rd l0 1))) > 14000
      ·rw [if_pos c9] at H
       have c9b0 : decide (14000 < (Go.bits .or .i64 (wrap64 ((wrap64 (rd l0 0)) * 256)) (wrap64 (rd l0 1)))) = true := decide_eq_true c9
       clear c9
       have H' := Aside0.mk H
       clear H
       try go_wp2
       have n0_ := Aside0.mk (below_drew1 HB.out)
       clear HB
       have HB := n0_
       clear n0_
       refine start_ (n := 17) (S := fun w' => True) (ds := []) #[false, false, false, false, false, false, false, false, false, false, false, false, false, false, false, false, false] (by kernel_rfl) rfl rfl trivial (fun hHeld => ?_); refine with_tabW tumbrelref01_Open.tab4 tumbrelref01_Open.bits4 (fun HT_ HW_ => ?_)
       generalize w6.drew = w10 at HB hHeld ⊢
       refine pure_ (i := 0) (N := some 19) (v := ?_) (a' := ?_) #[true, false, false, false, false, false, false, false, false, false, false, false, false, false, false, false, false] rfl rfl (any_of HT_.out (by kernel_rfl)) (fun _ _ _ h => h) (Or.inl ⟨by rfl, ?_⟩) ?_ ?_
       rotate_left
       ·intro w'
        go_simp
        with_reducible rfl
       rotate_left
       ·simp only [Act.put, sA_, sB_, sC_, i64_w, i32_w]
        rfl
       refine pure_ (i := 1) (N := some 20) (v := ?_) (a' := ?_) #[true, true, false, false, false, false, false, false, false, false, false, false, false, false, false, false, false] rfl rfl (any_of HT_.out (by kernel_rfl)) (fun _ _ _ h => h) (Or.inl ⟨by rfl, ?_⟩) ?_ ?_
       rotate_left
       ·intro w'
        go_simp
        with_reducible rfl
       rotate_left
       ·simp only [Act.put, sA_, sB_, sC_, i64_w, i32_w]
        rfl
       refine pure_ (i := 2) (N := some 21) (v := ?_) (a' := ?_) #[true, true, true, false, false, false, false, false, false, false, false, false, false, false, false, false, false] rfl rfl (any_of HT_.out (by kernel_rfl)) (fun _ _ _ h => h) (Or.inl ⟨by rfl, ?_⟩) ?_ ?_
       rotate_left
       ·intro w'
        go_simp
        with_reducible rfl
       rotate_left
       ·simp only [Act.put, sA_, sB_, sC_, i64_w, i32_w]
        rfl
       refine pure_ (i := 3) (N := some 22) (v := ?_) (a' := ?_) #[true, true, true, true, false, false, false, false, false, false, false, false, false, false, false, false, false] rfl rfl (any_of HT_.out (by kernel_rfl)) (fun _ _ _ h => h) (Or.inl ⟨by rfl, ?_⟩) ?_ ?_
       rotate_left
       ·intro w'
        go_simp
        with_reducible rfl
       rotate_left
       ·simp only [Act.put, sA_, sB_, sC_, i64_w, i32_w]
        rfl
       refine pure_ (i := 4) (N := some 23) (v := ?_) (a' := ?_) #[true, true, true, true, true, false, false, false, false, false, false, false, false, false, false, false, false] rfl rfl (any_of HT_.out (by kernel_rfl)) (fun _ _ _ h => h) (Or.inl ⟨by rfl, ?_⟩) ?_ ?_
       rotate_left
       ·intro w'
        go_simp
        with_reducible rfl
       rotate_left
       ·simp only [Act.put, sA_, sB_, sC_, i64_w, i32_w]
        rfl
       refine pure_ (i := 5) (N := some 24) (v := ?_) (a' := ?_) #[true, true, true, true, true, true, false, false, false, false, false, false, false, false, false, false, false] rfl rfl (any_of HT_.out (by kernel_rfl)) (fun _ _ _ h => h) (Or.inl ⟨by rfl, ?_⟩) ?_ ?_
       rotate_left
       ·intro w'
        go_simp
        with_reducible rfl
       rotate_left
       ·simp only [Act.put, sA_, sB_, sC_, i64_w, i32_w]
        rfl
       refine pure_ (i := 6) (N := some 25) (v := ?_) (a' := ?_) #[true, true, true, true, true, true, true, false, false, false, false, false, false, false, false, false, false] rfl rfl (any_of HT_.out (by kernel_rfl)) (fun _ _ _ h => h) (Or.inl ⟨by rfl, ?_⟩) ?_ ?_
       rotate_left
       ·intro w'
        go_simp
        with_reducible rfl
       rotate_left
       ·simp only [Act.put, sA_, sB_, sC_, i64_w, i32_w]
        rfl
       refine pure_ (i := 7) (N := some 26) (v := undef) (a' := ?_) #[true, true, true, true, true, true, true, true, false, false, false, false, false, false, false, false, false] rfl rfl (any_of HT_.out (by kernel_rfl)) (fun _ _ _ h => h) (Or.inr ⟨by rfl, rfl⟩) ?_ ?_
       rotate_left
       ·simp only [Act.put, sA_, sB_, sC_, i64_w, i32_w]
        rfl
       refine pure_ (i := 8) (N := some 27) (v := undef) (a' := ?_) #[true, true, true, true, true, true, true, true, true, false, false, false, false, false, false, false, false] rfl rfl (any_of HT_.out (by kernel_rfl)) (fun _ _ _ h => h) (Or.inr ⟨by rfl, rfl⟩) ?_ ?_
       rotate_left
       ·simp only [Act.put, sA_, sB_, sC_, i64_w, i32_w]
        rfl
       refine pure_ (i := 9) (N := some 28) (v := undef) (a' := ?_) #[true, true, true, true, true, true, true, true, true, true, false, false, false, false, false, false, false] rfl rfl (any_of HT_.out (by kernel_rfl)) (fun _ _ _ h => h) (Or.inr ⟨by rfl, rfl⟩) ?_ ?_
       rotate_left
       ·simp only [Act.put, sA_, sB_, sC_, i64_w, i32_w]
        rfl
       refine pure_ (i := 10) (N := some 29) (v := undef) (a' := ?_) #[true, true, true, true, true, true, true, true, true, true, true, false, false, false, false, false, false] rfl rfl (any_of HT_.out (by kernel_rfl)) (fun _ _ _ h => h) (Or.inr ⟨by rfl, rfl⟩) ?_ ?_
       rotate_left
       ·simp only [Act.put, sA_, sB_, sC_, i64_w, i32_w]
        rfl
       refine pure_ (i := 11) (N := some 30) (v := undef) (a' := ?_) #[true, true, true, true, true, true, true, true, true, true, true, true, false, false, false, false, false] rfl rfl (any_of HT_.out (by kernel_rfl)) (fun _ _ _ h => h) (Or.inr ⟨by rfl, rfl⟩) ?_ ?_
       rotate_left
       ·simp only [Act.put, sA_, sB_, sC_, i64_w, i32_w]
        rfl
       refine pure_ (i := 12) (N := some 31) (v := undef) (a' := ?_) #[true, true, true, true, true, true, true, true, true, true, true, true, true, false, false, false, false] rfl rfl (any_of HT_.out (by kernel_rfl)) (fun _ _ _ h => h) (Or.inr ⟨by rfl, rfl⟩) ?_ ?_
       rotate_left
       ·simp only [Act.put, sA_, sB_, sC_, i64_w, i32_w]
        rfl
       refine pure_ (i := 13) (N := some 32) (v := undef) (a' := ?_) #[true, true, true, true, true, true, true, true, true, true, true, true, true, true, false, false, false] rfl rfl (any_of HT_.out (by kernel_rfl)) (fun _ _ _ h => h) (Or.inr ⟨by rfl, rfl⟩) ?_ ?_
       rotate_left
       ·simp only [Act.put, sA_, sB_, sC_, i64_w, i32_w]
        rfl
       refine pure_ (i := 14) (N := some 33) (v := undef) (a' := ?_) #[true, true, true, true, true, true, true, true, true, true, true, true, true, true, true, false, false] rfl rfl (any_of HT_.out (by kernel_rfl)) (fun _ _ _ h => h) (Or.inr ⟨by rfl, rfl⟩) ?_ ?_
       rotate_left
       ·simp only [Act.put, sA_, sB_, sC_, i64_w, i32_w]
        rfl
       refine pure_ (i := 15) (N := some 34) (v := undef) (a' := ?_) #[true, true, true, true, true, true, true, true, true, true, true, true, true, true, true, true, false] rfl rfl (any_of HT_.out (by kernel_rfl)) (fun _ _ _ h => h) (Or.inr ⟨by rfl, rfl⟩) ?_ ?_
       rotate_left
       ·simp only [Act.put, sA_, sB_, sC_, i64_w, i32_w]
        rfl
       refine pure_ (i := 16) (N := some 35) (v := ?_) (a' := ?_) #[true, true, true, true, true, true, true, true, true, true, true, true, true, true, true, true, true] rfl rfl (any_of HT_.out (by kernel_rfl)) (fun _ _ _ h => h) (Or.inl ⟨by rfl, ?_⟩) ?_ ?_
       rotate_left
       ·intro w'
        go_simp
        with_reducible rfl
       rotate_left
       ·simp only [Act.put, sA_, sB_, sC_, i64_w, i32_w]
        rfl
       refine done_ (done_of HT_.out (by kernel_rfl)) ?_
       try go_wp2
       go_meet
       case rel => exact ⟨_, (true), (by first | rfl | (simp; done) | (simp [*]; done)), H', ⟨by first | omega | exact Nat.le_refl _⟩, ⟨by repeat (first | (with_reducible first | exact HB.out | apply below_alloc | apply pw_below_drewN | apply below_drew1) | exact HB.out)⟩⟩
      ·rw [if_neg c9] at H
       have c9b0 : decide (14000 < (Go.bits .or .i64 (wrap64 ((wrap64 (rd l0 0)) * 256)) (wrap64 (rd l0 1)))) = false := decide_eq_false c9
       clear c9
       by_cases c11 : 2 ≤ (l0.length : Int)
       ·rw [if_pos c11] at H
        have c11b0 := eq_true c11
        have c11b1 : decide (2 ≤ (l0.length : Int)) = true := decide_eq_true c11
        clear c11
        obtain ⟨y338, hy338⟩ : ∃ y_ : List Int, y_ = (l0.take 2) := ⟨_, rfl⟩
        replace H : ((tumbrelref01_Sum.f k y338).bind fun t342 => ((tumbrelref01_two.f t342).bind fun t343 => (if 4 ≤ (l0.length : Int) then (tumbrelref01_Open.j0 k l0 (Go.bits .or .i64 (wrap64 ((wrap64 (rd l0 0)) * 256)) (wrap64 (rd l0 1))) ((strOfNums t343).toList != (strOfNums ((l0.take 4).drop 2)).toList)) else (none)))) = some (r1, r2, r3) := by first | (rw [hy338]; with_reducible exact H) | (have H2_ := (Option.bind_some _ _).symm.trans H; rw [hy338]; with_reducible exact H2_) | (have H2_ := (Option.bind_some _ _).symm.trans H; with_reducible exact H2_) | with_reducible exact H | (rw [hy338]; exact H) | exact H
        have Ny338 := Aside0.mk hy338
        clear hy338
        replace H := Option.bind_eq_some_iff.mp H
        obtain ⟨t342, A120, H⟩ := H
        replace H : ((tumbrelref01_two.f t342).bind fun t343 => (if 4 ≤ (l0.length : Int) then (tumbrelref01_Open.j0 k l0 (Go.bits .or .i64 (wrap64 ((wrap64 (rd l0 0)) * 256)) (wrap64 (rd l0 1))) ((strOfNums t343).toList != (strOfNums ((l0.take 4).drop 2)).toList)) else (none))) = some (r1, r2, r3) := H
        have A12 := Aside0.mk A120
        clear A120
        replace H := Option.bind_eq_some_iff.mp H
        obtain ⟨t343, A130, H⟩ := H
        replace H : (if 4 ≤ (l0.length : Int) then (tumbrelref01_Open.j0 k l0 (Go.bits .or .i64 (wrap64 ((wrap64 (rd l0 0)) * 256)) (wrap64 (rd l0 1))) ((strOfNums t343).toList != (strOfNums ((l0.take 4).drop 2)).toList)) else (none)) = some (r1, r2, r3) := H
        have A13 := Aside0.mk A130
        clear A130
        by_cases c14 : 4 ≤ (l0.length : Int)
        ·rw [if_pos c14] at H
         have c14b0 := eq_true c14
         have c14b1 : decide (4 ≤ (l0.length : Int)) = true := decide_eq_true c14
         clear c14
         obtain ⟨y346, hy346⟩ : ∃ y_ : List Int, y_ = ((l0.take 4).drop 2) := ⟨_, rfl⟩
         replace H : (tumbrelref01_Open.j0 k l0 (Go.bits .or .i64 (wrap64 ((wrap64 (rd l0 0)) * 256)) (wrap64 (rd l0 1))) ((strOfNums t343).toList != (strOfNums y346).toList)) = some (r1, r2, r3) := by first | (rw [hy346]; with_reducible exact H) | (have H2_ := (Option.bind_some _ _).symm.trans H; rw [hy346]; with_reducible exact H2_) | (have H2_ := (Option.bind_some _ _).symm.trans H; with_reducible exact H2_) | with_reducible exact H | (rw [hy346]; exact H) | exact H
         have Ny346 := Aside0.mk hy346
         clear hy346
         have H' := Aside0.mk H
         clear H
         try go_wp2
         have n0_ := Aside0.mk (below_drew1 HB.out)
         clear HB
         have HB := n0_
         clear n0_
         have q16 : (2 : Int) ≤ ((l0.length : Int) : Int) := of_decide_eq_true kz9_4
         obtain ⟨i016, hi016, _, hsz16, _⟩ := info_parts info5
         have hroom16 : l0.length ≤ c0 := HC0.out
         have hC16 : Kd.C (Kd.int .u8) _ (some ad336) l0.length l0 := HR0.out
         have hcut16 := cut_to (P := Try.prog) 50 5 .i64 Try.underlying50 hi016 (some ad336) l0.length c0 2 (by omega) q16 hroom16
         have hr16 := Kd.C_take (m := 2) hC16 (by omega)
         have hy16 : y338.length = (2 : Int).toNat := (by rw [Ny338.out, List.length_take]; omega)
         rw [← Ny338.out] at hr16
         rw [← hy16] at hcut16
         have HR341 := Aside0.mk hr16
         have HC341 := Aside0.mk (show y338.length ≤ c0 from by omega)
         clear hr16 hC16 hroom16 hi016 hsz16
         have KY16 := Aside0.mk hy16
         clear hy16
         replace q16 := eq_true q16
         have q17 : (4 : Int) ≤ ((l0.length : Int) : Int) := of_decide_eq_true kz9_4
         obtain ⟨i017, hi017, _, hsz17, _⟩ := info_parts info5
         have hroom17 : l0.length ≤ c0 := HC0.out
         have hC17 : Kd.C (Kd.int .u8) _ (some ad336) l0.length l0 := HR0.out
         have ql17 : (2 : Int) ≤ (4 : Int) := (by omega)
         have hcut17 := cut_mid (P := Try.prog) 50 5 .i64 .i64 Try.underlying50 hi017 1 hsz17 (some ad336) l0.length c0 2 4 (by omega) ql17 q17 hroom17
         have hr17 := Kd.C_mid (lo := (2 : Int).toNat) (hi := (4 : Int).toNat) (c := c0) hC17 (by omega) (by omega) hroom17
         obtain ⟨A17, hA17⟩ : ∃ A1, A1 = (if c0 = (2 : Int).toNat then (some ad336) else ((some ad336) : Option Addr).map (·.add ((2 : Int).toNat * 1))) := ⟨_, rfl⟩
         obtain ⟨c17, hc17⟩ : ∃ c1, c1 = c0 - (2 : Int).toNat := ⟨_, rfl⟩
         have hy17 : y346.length = (4 : Int).toNat - (2 : Int).toNat := (by rw [Ny346.out, List.length_drop, List.length_take] <;> omega)
         rw [show ((l0).take (4 : Int).toNat).drop (2 : Int).toNat = y346 from Ny346.out.symm] at hr17
         replace hr17 : Kd.C (Kd.int .u8) _ A17 y346.length y346 := (by rw [hA17]; exact hr17)
         rw [← hy17, ← hA17, ← hc17] at hcut17
         have HR349 := Aside0.mk hr17
         have HC349 := Aside0.mk (show y346.length ≤ c17 from by rw [hy17, hc17]; exact Nat.sub_le_sub_right (Nat.le_trans (by omega) hroom17) _)
         clear hr17 hC17 hroom17 hi017 hsz17 hc17
         have KY17 := Aside0.mk hy17
         have KA17 := Aside0.mk hA17
         clear hy17 hA17
         replace q17 := eq_true q17
         refine start_ (n := 17) (S := fun w' => True) (ds := []) #[false, false, false, false, false, false, false, false, false, false, false, false, false, false, false, false, false] (by kernel_rfl) rfl rfl trivial (fun hHeld => ?_); refine with_tabW tumbrelref01_Open.tab4 tumbrelref01_Open.bits4 (fun HT_ HW_ => ?_)
         generalize w6.drew = w15 at HB HR341 HR349 hHeld ⊢
         refine pure_ (i := 0) (N := some 19) (v := ?_) (a' := ?_) #[true, false, false, false, false, false, false, false, false, false, false, false, false, false, false, false, false] rfl rfl (any_of HT_.out (by kernel_rfl)) (fun _ _ _ h => h) (Or.inl ⟨by rfl, ?_⟩) ?_ ?_
         rotate_left
         ·intro w'
          go_simp
          with_reducible rfl
         rotate_left
         ·simp only [Act.put, sA_, sB_, sC_, i64_w, i32_w]
          rfl
         refine pure_ (i := 1) (N := some 20) (v := ?_) (a' := ?_) #[true, true, false, false, false, false, false, false, false, false, false, false, false, false, false, false, false] rfl rfl (any_of HT_.out (by kernel_rfl)) (fun _ _ _ h => h) (Or.inl ⟨by rfl, ?_⟩) ?_ ?_
         rotate_left
         ·intro w'
          go_simp
          with_reducible rfl
         rotate_left
         ·simp only [Act.put, sA_, sB_, sC_, i64_w, i32_w]
          rfl
         refine pure_ (i := 2) (N := some 21) (v := ?_) (a' := ?_) #[true, true, true, false, false, false, false, false, false, false, false, false, false, false, false, false, false] rfl rfl (any_of HT_.out (by kernel_rfl)) (fun _ _ _ h => h) (Or.inl ⟨by rfl, ?_⟩) ?_ ?_
         rotate_left
         ·intro w'
          go_simp
          with_reducible rfl
         rotate_left
         ·simp only [Act.put, sA_, sB_, sC_, i64_w, i32_w]
          rfl
         refine pure_ (i := 3) (N := some 22) (v := ?_) (a' := ?_) #[true, true, true, true, false, false, false, false, false, false, false, false, false, false, false, false, false] rfl rfl (any_of HT_.out (by kernel_rfl)) (fun _ _ _ h => h) (Or.inl ⟨by rfl, ?_⟩) ?_ ?_
         rotate_left
         ·intro w'
          go_simp
          with_reducible rfl
         rotate_left
         ·simp only [Act.put, sA_, sB_, sC_, i64_w, i32_w]
          rfl
         refine pure_ (i := 4) (N := some 23) (v := ?_) (a' := ?_) #[true, true, true, true, true, false, false, false, false, false, false, false, false, false, false, false, false] rfl rfl (any_of HT_.out (by kernel_rfl)) (fun _ _ _ h => h) (Or.inl ⟨by rfl, ?_⟩) ?_ ?_
         rotate_left
         ·intro w'
          go_simp
          with_reducible rfl
         rotate_left
         ·simp only [Act.put, sA_, sB_, sC_, i64_w, i32_w]
          rfl
         refine pure_ (i := 5) (N := some 24) (v := ?_) (a' := ?_) #[true, true, true, true, true, true, false, false, false, false, false, false, false, false, false, false, false] rfl rfl (any_of HT_.out (by kernel_rfl)) (fun _ _ _ h => h) (Or.inl ⟨by rfl, ?_⟩) ?_ ?_
         rotate_left
         ·intro w'
          go_simp
          with_reducible rfl
         rotate_left
         ·simp only [Act.put, sA_, sB_, sC_, i64_w, i32_w]
          rfl
         refine pure_ (i := 6) (N := some 25) (v := ?_) (a' := ?_) #[true, true, true, true, true, true, true, false, false, false, false, false, false, false, false, false, false] rfl rfl (any_of HT_.out (by kernel_rfl)) (fun _ _ _ h => h) (Or.inl ⟨by rfl, ?_⟩) ?_ ?_
         rotate_left
         ·intro w'
          go_simp
          with_reducible rfl
         rotate_left
         ·simp only [Act.put, sA_, sB_, sC_, i64_w, i32_w]
          rfl
         refine pure_ (i := 7) (N := some 26) (v := ?_) (a' := ?_) #[true, true, true, true, true, true, true, true, false, false, false, false, false, false, false, false, false] rfl rfl (any_of HT_.out (by kernel_rfl)) (fun _ _ _ h => h) (Or.inl ⟨by rfl, ?_⟩) ?_ ?_
         rotate_left
         ·intro w'
          go_simp
          with_reducible rfl
         rotate_left
         ·simp only [Act.put, sA_, sB_, sC_, i64_w, i32_w]
          rfl
         refine pure_ (i := 8) (N := some 27) (v := ?_) (a' := ?_) #[true, true, true, true, true, true, true, true, true, false, false, false, false, false, false, false, false] rfl rfl (any_of HT_.out (by kernel_rfl)) (fun _ _ _ h => h) (Or.inl ⟨by rfl, ?_⟩) ?_ ?_
         rotate_left
         ·intro w'
          go_simp
          with_reducible rfl
         rotate_left
         ·simp only [Act.put, sA_, sB_, sC_, i64_w, i32_w]
          rfl
         refine pure_ (i := 12) (N := some 31) (v := ?_) (a' := ?_) #[true, true, true, true, true, true, true, true, true, false, false, false, true, false, false, false, false] rfl rfl (any_of HT_.out (by kernel_rfl)) (fun _ _ _ h => h) (Or.inl ⟨by rfl, ?_⟩) ?_ ?_
         rotate_left
         ·intro w'
          go_simp
          with_reducible rfl
         rotate_left
         ·simp only [Act.put, sA_, sB_, sC_, i64_w, i32_w]
          rfl
         refine pure_ (i := 13) (N := some 32) (v := ?_) (a' := ?_) #[true, true, true, true, true, true, true, true, true, false, false, false, true, true, false, false, false] rfl rfl (any_of HT_.out (by kernel_rfl)) (fun _ _ _ h => h) (Or.inl ⟨by rfl, ?_⟩) ?_ ?_
         rotate_left
         ·intro w'
          go_simp
          with_reducible rfl
         rotate_left
         ·simp only [Act.put, sA_, sB_, sC_, i64_w, i32_w]
          rfl
         refine join_ (σ := Value) 2 #[true, true, true, true, true, true, true, true, true, true, true, true, true, true, true, false, false] (fun s_ => [(28, .int .u16 t342), (29, s_), (30, .string (strOfNums t343)), (33, .string (strOfNums y346))]) (fun s_ w' => (Kd.R (Kd.int .u8) 5 w' w.heap.size (fun _ => True) s_ t343) ∧ (Below w.heap.size w w')) ?_ ?_
         rotate_left
         ·intro hCont
          refine two_ (i := 9) (j := 14) (Ni := some 28) (Nj := some 33) #[true, true, true, true, true, true, true, true, true, true, false, false, true, true, false, false, false] #[true, true, true, true, true, true, true, true, true, false, false, false, true, true, true, false, false] rfl rfl rfl rfl (two_of HT_.out (by kernel_rfl)) (by decide) (by decide) (fun K hK => ?_) (fun K hK => ?_)
          ·skip
           refine goes_ Try.func74 (by kernel_rfl) rfl #[.slice (some ad336) y338.length c0] (by rfl) rfl rfl kz9_2 ?_
           with_reducible refine (tumbrelref01_Sum.calls k _ _ y338 t342 _ ?side1 ?side2 A12.out).mono ?_
           (case side1 => repeat (first | exact (Kd.C_below HR341.out HB.out) | (with_reducible refine Kd.C_alloc ?_ _) | (with_reducible refine Kd.C_drewN ?_ _) | (with_reducible refine Kd.C_drew ?_)))
           (case side2 => exact HC341.out)
           rintro e w' ⟨rfl, ⟨nd, rfl⟩⟩
           refine ⟨_, rfl, ?_⟩
           refine hK.out _ _ trivial (fun hHeld => ?_)
           clear hK K
           refine norm_ (a' := ?_) ?_ ?_
           rotate_left
           ·show Act.put _ (some 28) _ = _
            simp only [Act.put, sA_, sB_, sC_, i64_w, i32_w]
            rfl
           refine two_ (i := 10) (j := 14) (Ni := some 29) (Nj := some 33) #[true, true, true, true, true, true, true, true, true, true, true, false, true, true, false, false, false] #[true, true, true, true, true, true, true, true, true, true, false, false, true, true, true, false, false] rfl rfl rfl rfl (two_of HT_.out (by kernel_rfl)) (by decide) (by decide) (fun K hK => ?_) (fun K hK => ?_)
           ·skip
            refine goes_ Try.func73 (by kernel_rfl) rfl #[.int .u16 t342] (by rfl) rfl rfl kz9_2 ?_
            with_reducible refine (tumbrelref01_two.calls t342 t343 _ A13.out).mono ?_
            rintro e w18 ⟨v344, rfl, ho0, hb⟩
            refine ⟨_, rfl, ?_⟩
            have n0_ := Aside0.mk (Kd.R_lower ho0 (below_size kz9_1))
            have n1_ := Aside0.mk (below_step kz9_1 hb)
            clear HB
            have HO345 := n0_
            have HB := n1_
            clear n0_ n1_
            (try clear hb)
            (try clear hb2)
            (try clear hk)
            (try clear hi)
            (try clear ho0)
            refine hK.out _ _ trivial (fun hHeld => ?_)
            clear hK K
            refine norm_ (a' := ?_) ?_ ?_
            rotate_left
            ·show Act.put _ (some 29) _ = _
             simp only [Act.put, sA_, sB_, sC_, i64_w, i32_w]
             rfl
            refine two_ (i := 11) (j := 14) (Ni := some 30) (Nj := some 33) #[true, true, true, true, true, true, true, true, true, true, true, true, true, true, false, false, false] #[true, true, true, true, true, true, true, true, true, true, true, false, true, true, true, false, false] rfl rfl rfl rfl (two_of HT_.out (by kernel_rfl)) (by decide) (by decide) (fun K hK => ?_) (fun K hK => ?_)
            ·skip
             have hcv19 := own_string (P := Try.prog) Try.underlying50 Try.underlying5 Try.underlying9 (Kd.own_of_R HO345.out)
             refine value_ (w1 := ?_) (v := ?_) (by rfl) rfl ?_ ?_
             rotate_left 2
             ·go_simp
              constructor
              ·rfl
              ·rfl
             clear hcv19
             refine hK.out _ _ trivial (fun hHeld => ?_)
             clear hK K
             refine norm_ (a' := ?_) ?_ ?_
             rotate_left
             ·show Act.put _ (some 30) _ = _
              simp only [Act.put, sA_, sB_, sC_, i64_w, i32_w]
              rfl
             refine one_ (i := 14) (N := some 33) #[true, true, true, true, true, true, true, true, true, true, true, true, true, true, true, false, false] rfl rfl (one_of HT_.out (by kernel_rfl)) (by decide) (fun K hK => ?_)
             have hcv20 := Kd.C_string (P := Try.prog) (A := A17) (c := c17) Try.underlying50 Try.underlying5 Try.underlying9 (Kd.C_below HR349.out HB.out); have hcv20d := fun m_ => Kd.C_string (P := Try.prog) (A := A17) (c := c17) Try.underlying50 Try.underlying5 Try.underlying9 (Kd.C_drewN ((Kd.C_below HR349.out HB.out)) m_)
             refine value_ (w1 := ?_) (v := ?_) (by rfl) rfl ?_ ?_
             rotate_left 2
             ·go_simp
              constructor
              ·rfl
              ·rfl
             clear hcv20 hcv20d
             refine hK.out _ _ trivial (fun hHeld => ?_)
             clear hK K
             refine norm_ (a' := ?_) ?_ ?_
             rotate_left
             ·show Act.put _ (some 33) _ = _
              simp only [Act.put, sA_, sB_, sC_, i64_w, i32_w]
              rfl
             exact norm_ kz9_5 (hCont (v344) _ ⟨kz9_6, kz9_1⟩)
            ·skip
             have hcv19 := Kd.C_string (P := Try.prog) (A := A17) (c := c17) Try.underlying50 Try.underlying5 Try.underlying9 (Kd.C_below HR349.out HB.out); have hcv19d := fun m_ => Kd.C_string (P := Try.prog) (A := A17) (c := c17) Try.underlying50 Try.underlying5 Try.underlying9 (Kd.C_drewN ((Kd.C_below HR349.out HB.out)) m_)
             refine value_ (w1 := ?_) (v := ?_) (by rfl) rfl ?_ ?_
             rotate_left 2
             ·go_simp
              constructor
              ·rfl
              ·rfl
             clear hcv19 hcv19d
             refine hK.out _ _ trivial (fun hHeld => ?_)
             clear hK K
             refine norm_ (a' := ?_) ?_ ?_
             rotate_left
             ·show Act.put _ (some 33) _ = _
              simp only [Act.put, sA_, sB_, sC_, i64_w, i32_w]
              rfl
             refine one_ (i := 11) (N := some 30) #[true, true, true, true, true, true, true, true, true, true, true, true, true, true, true, false, false] rfl rfl (one_of HT_.out (by kernel_rfl)) (by decide) (fun K hK => ?_)
             have hcv20 := own_string (P := Try.prog) Try.underlying50 Try.underlying5 Try.underlying9 (Kd.own_of_R HO345.out)
             refine value_ (w1 := ?_) (v := ?_) (by rfl) rfl ?_ ?_
             rotate_left 2
             ·go_simp
              constructor
              ·rfl
              ·rfl
             clear hcv20
             refine hK.out _ _ trivial (fun hHeld => ?_)
             clear hK K
             refine norm_ (a' := ?_) ?_ ?_
             rotate_left
             ·show Act.put _ (some 30) _ = _
              simp only [Act.put, sA_, sB_, sC_, i64_w, i32_w]
              rfl
             exact norm_ kz9_5 (hCont (v344) _ ⟨kz9_6, kz9_1⟩)
           ·skip
            have hcv18 := Kd.C_string (P := Try.prog) (A := A17) (c := c17) Try.underlying50 Try.underlying5 Try.underlying9 (Kd.C_below HR349.out HB.out); have hcv18d := fun m_ => Kd.C_string (P := Try.prog) (A := A17) (c := c17) Try.underlying50 Try.underlying5 Try.underlying9 (Kd.C_drewN ((Kd.C_below HR349.out HB.out)) m_)
            refine value_ (w1 := ?_) (v := ?_) (by rfl) rfl ?_ ?_
            rotate_left 2
            ·go_simp
             constructor
             ·rfl
             ·rfl
            clear hcv18 hcv18d
            refine hK.out _ _ trivial (fun hHeld => ?_)
            clear hK K
            refine norm_ (a' := ?_) ?_ ?_
            rotate_left
            ·show Act.put _ (some 33) _ = _
             simp only [Act.put, sA_, sB_, sC_, i64_w, i32_w]
             rfl
            refine one_ (i := 10) (N := some 29) #[true, true, true, true, true, true, true, true, true, true, true, false, true, true, true, false, false] rfl rfl (one_of HT_.out (by kernel_rfl)) (by decide) (fun K hK => ?_)
            refine goes_ Try.func73 (by kernel_rfl) rfl #[.int .u16 t342] (by rfl) rfl rfl kz9_2 ?_
            with_reducible refine (tumbrelref01_two.calls t342 t343 _ A13.out).mono ?_
            rintro e w19 ⟨v344, rfl, ho0, hb⟩
            refine ⟨_, rfl, ?_⟩
            have n0_ := Aside0.mk (Kd.R_lower ho0 (below_size kz9_1))
            have n1_ := Aside0.mk (below_step kz9_1 hb)
            clear HB
            have HO345 := n0_
            have HB := n1_
            clear n0_ n1_
            (try clear hb)
            (try clear hb2)
            (try clear hk)
            (try clear hi)
            (try clear ho0)
            refine hK.out _ _ trivial (fun hHeld => ?_)
            clear hK K
            refine norm_ (a' := ?_) ?_ ?_
            rotate_left
            ·show Act.put _ (some 29) _ = _
             simp only [Act.put, sA_, sB_, sC_, i64_w, i32_w]
             rfl
            refine one_ (i := 11) (N := some 30) #[true, true, true, true, true, true, true, true, true, true, true, true, true, true, true, false, false] rfl rfl (one_of HT_.out (by kernel_rfl)) (by decide) (fun K hK => ?_)
            have hcv20 := own_string (P := Try.prog) Try.underlying50 Try.underlying5 Try.underlying9 (Kd.own_of_R HO345.out)
            refine value_ (w1 := ?_) (v := ?_) (by rfl) rfl ?_ ?_
            rotate_left 2
            ·go_simp
             constructor
             ·rfl
             ·rfl
            clear hcv20
            refine hK.out _ _ trivial (fun hHeld => ?_)
            clear hK K
            refine norm_ (a' := ?_) ?_ ?_
            rotate_left
            ·show Act.put _ (some 30) _ = _
             simp only [Act.put, sA_, sB_, sC_, i64_w, i32_w]
             rfl
            exact norm_ kz9_5 (hCont (v344) _ ⟨kz9_6, kz9_1⟩)
          ·skip
           have hcv18 := Kd.C_string (P := Try.prog) (A := A17) (c := c17) Try.underlying50 Try.underlying5 Try.underlying9 (Kd.C_below HR349.out HB.out); have hcv18d := fun m_ => Kd.C_string (P := Try.prog) (A := A17) (c := c17) Try.underlying50 Try.underlying5 Try.underlying9 (Kd.C_drewN ((Kd.C_below HR349.out HB.out)) m_)
           refine value_ (w1 := ?_) (v := ?_) (by rfl) rfl ?_ ?_
           rotate_left 2
           ·go_simp
            constructor
            ·rfl
            ·rfl
           clear hcv18 hcv18d
           refine hK.out _ _ trivial (fun hHeld => ?_)
           clear hK K
           refine norm_ (a' := ?_) ?_ ?_
           rotate_left
           ·show Act.put _ (some 33) _ = _
            simp only [Act.put, sA_, sB_, sC_, i64_w, i32_w]
            rfl
           refine one_ (i := 9) (N := some 28) #[true, true, true, true, true, true, true, true, true, true, false, false, true, true, true, false, false] rfl rfl (one_of HT_.out (by kernel_rfl)) (by decide) (fun K hK => ?_)
           refine goes_ Try.func74 (by kernel_rfl) rfl #[.slice (some ad336) y338.length c0] (by rfl) rfl rfl kz9_2 ?_
           with_reducible refine (tumbrelref01_Sum.calls k _ _ y338 t342 _ ?side1 ?side2 A12.out).mono ?_
           (case side1 => repeat (first | exact (Kd.C_below HR341.out HB.out) | (with_reducible refine Kd.C_alloc ?_ _) | (with_reducible refine Kd.C_drewN ?_ _) | (with_reducible refine Kd.C_drew ?_)))
           (case side2 => exact HC341.out)
           rintro e w' ⟨rfl, ⟨nd, rfl⟩⟩
           refine ⟨_, rfl, ?_⟩
           refine hK.out _ _ trivial (fun hHeld => ?_)
           clear hK K
           refine norm_ (a' := ?_) ?_ ?_
           rotate_left
           ·show Act.put _ (some 28) _ = _
            simp only [Act.put, sA_, sB_, sC_, i64_w, i32_w]
            rfl
           refine one_ (i := 10) (N := some 29) #[true, true, true, true, true, true, true, true, true, true, true, false, true, true, true, false, false] rfl rfl (one_of HT_.out (by kernel_rfl)) (by decide) (fun K hK => ?_)
           refine goes_ Try.func73 (by kernel_rfl) rfl #[.int .u16 t342] (by rfl) rfl rfl kz9_2 ?_
           with_reducible refine (tumbrelref01_two.calls t342 t343 _ A13.out).mono ?_
           rintro e w19 ⟨v344, rfl, ho0, hb⟩
           refine ⟨_, rfl, ?_⟩
           have n0_ := Aside0.mk (Kd.R_lower ho0 (below_size kz9_1))
           have n1_ := Aside0.mk (below_step kz9_1 hb)
           clear HB
           have HO345 := n0_
           have HB := n1_
           clear n0_ n1_
           (try clear hb)
           (try clear hb2)
           (try clear hk)
           (try clear hi)
           (try clear ho0)
           refine hK.out _ _ trivial (fun hHeld => ?_)
           clear hK K
           refine norm_ (a' := ?_) ?_ ?_
           rotate_left
           ·show Act.put _ (some 29) _ = _
            simp only [Act.put, sA_, sB_, sC_, i64_w, i32_w]
            rfl
           refine one_ (i := 11) (N := some 30) #[true, true, true, true, true, true, true, true, true, true, true, true, true, true, true, false, false] rfl rfl (one_of HT_.out (by kernel_rfl)) (by decide) (fun K hK => ?_)
           have hcv20 := own_string (P := Try.prog) Try.underlying50 Try.underlying5 Try.underlying9 (Kd.own_of_R HO345.out)
           refine value_ (w1 := ?_) (v := ?_) (by rfl) rfl ?_ ?_
           rotate_left 2
           ·go_simp
            constructor
            ·rfl
            ·rfl
           clear hcv20
           refine hK.out _ _ trivial (fun hHeld => ?_)
           clear hK K
           refine norm_ (a' := ?_) ?_ ?_
           rotate_left
           ·show Act.put _ (some 30) _ = _
            simp only [Act.put, sA_, sB_, sC_, i64_w, i32_w]
            rfl
           exact norm_ kz9_5 (hCont (v344) _ ⟨kz9_6, kz9_1⟩)
         rintro v344 w21 ⟨h0_, h1_⟩
         have n0_ : Aside0 (Kd.R (Kd.int .u8) 5 w21 w.heap.size (fun _ => True) v344 t343) := ⟨h0_⟩
         have n1_ : Aside0 (Below w.heap.size w w21) := ⟨h1_⟩
         clear HB
         clear h0_ h1_
         have HO345 := n0_
         have HB := n1_
         clear n0_ n1_
         have hHeld := trivial
         refine norm_ (a' := ?_) ?_ ?_
         rotate_left
         ·simp only [putAll, Act.put, sA_, sB_, sC_]
          rfl
         refine pure_ (i := 15) (N := some 34) (v := ?_) (a' := ?_) #[true, true, true, true, true, true, true, true, true, true, true, true, true, true, true, true, false] rfl rfl (any_of HT_.out (by kernel_rfl)) (fun _ _ _ h => h) (Or.inl ⟨by rfl, ?_⟩) ?_ ?_
         rotate_left
         ·intro w'
          go_simp
          with_reducible rfl
         rotate_left
         ·simp only [Act.put, sA_, sB_, sC_, i64_w, i32_w]
          rfl
         refine pure_ (i := 16) (N := some 35) (v := ?_) (a' := ?_) #[true, true, true, true, true, true, true, true, true, true, true, true, true, true, true, true, true] rfl rfl (any_of HT_.out (by kernel_rfl)) (fun _ _ _ h => h) (Or.inl ⟨by rfl, ?_⟩) ?_ ?_
         rotate_left
         ·intro w'
          go_simp
          with_reducible rfl
         rotate_left
         ·simp only [Act.put, sA_, sB_, sC_, i64_w, i32_w]
          rfl
         refine done_ (done_of HT_.out (by kernel_rfl)) ?_
         try go_wp2
         go_meet
         case rel => exact ⟨_, (((strOfNums t343).toList != (strOfNums y346).toList)), (by first | rfl | (simp; done) | (simp [*]; done)), H', ⟨by first | omega | exact Nat.le_refl _⟩, ⟨by repeat (first | (with_reducible first | exact HB.out | apply below_alloc | apply pw_below_drewN | apply below_drew1) | exact HB.out)⟩⟩
        ·rw [if_neg c14] at H
         exact absurd H (by simp)
       ·rw [if_neg c11] at H
        exact absurd H (by simp)
    case rest =>
     clear HC5
     try clear c1
     try clear q1
     try clear hcv1
     try clear p2
     try clear hcv2
     try clear p6
     try clear c7
     try clear c7b0
     try clear c9
     try clear c9b0
     try clear c11
     try clear c11b0
     try clear c11b1
     try clear c14
     try clear c14b0
     try clear c14b1
     try clear q16
     try clear c17
     try clear q17
     try clear hcv18
     try clear hcv19
     try clear hcv20
     try clear q16
     try clear q17
     obtain ⟨kq, x35_4, rfl, HA, HJ4, HB⟩ := hcut
     cases kq with
     | zero => exact absurd HA.out (by simp [tumbrelref01_Open.j0])
     | succ kj4 =>
      have H := HA.out
      clear HA
      simp only [tumbrelref01_Open.j0] at H
      by_cases c22 : x35_4 = true
      ·subst c22
       have H1 : (some (([] : List Int), 0, 9)) = some (r1, r2, r3) := by rw [if_pos rfl] at H; exact H
       clear H
       have H := H1
       clear H1
       simp only [Option.some.injEq, Prod.mk.injEq] at H
       obtain ⟨rfl, rfl, rfl⟩ := H
       go_wp2
       go_ret3
       exact ⟨_, by first | rfl | (simp [errW_none, errW_some] <;> rfl) | (simp [*, errW_none, errW_some] <;> rfl), by first | exact Kd.R_nil _ _ _ _ _ | exact Kd.N_nil _ _ _ _ _ | exact Kd.V_nil _ _ _ _ _ | exact Kd.Q_nil _ _ _ _ _ | exact Kd.S_nil _ _ _ _ _, by repeat (first | (with_reducible first | exact HB.out | apply below_alloc | apply pw_below_drewN | apply below_drew1) | exact HB.out)⟩
      ·replace c22 := Bool.eq_false_iff.mpr c22
       subst c22
       have H1 : (if (l0.length : Int) < (wrap64 (6 + (Go.bits .or .i64 (wrap64 ((wrap64 (rd l0 0)) * 256)) (wrap64 (rd l0 1))))) then (some (([] : List Int), 0, 5)) else (if 0 ≤ (wrap64 (4 + (Go.bits .or .i64 (wrap64 ((wrap64 (rd l0 0)) * 256)) (wrap64 (rd l0 1))))) then (if (wrap64 (4 + (Go.bits .or .i64 (wrap64 ((wrap64 (rd l0 0)) * 256)) (wrap64 (rd l0 1))))) ≤ (l0.length : Int) then ((tumbrelref01_Sum.f kj4 (l0.take ((wrap64 (4 + (Go.bits .or .i64 (wrap64 ((wrap64 (rd l0 0)) * 256)) (wrap64 (rd l0 1))))) : Int).toNat)).bind fun t354 => ((tumbrelref01_two.f t354).bind fun t355 => (if (wrap64 (4 + (Go.bits .or .i64 (wrap64 ((wrap64 (rd l0 0)) * 256)) (wrap64 (rd l0 1))))) ≤ (wrap64 (6 + (Go.bits .or .i64 (wrap64 ((wrap64 (rd l0 0)) * 256)) (wrap64 (rd l0 1))))) then (if (wrap64 (6 + (Go.bits .or .i64 (wrap64 ((wrap64 (rd l0 0)) * 256)) (wrap64 (rd l0 1))))) ≤ (l0.length : Int) then (if (strOfNums t355).toList = (strOfNums ((l0.take ((wrap64 (6 + (Go.bits .or .i64 (wrap64 ((wrap64 (rd l0 0)) * 256)) (wrap64 (rd l0 1))))) : Int).toNat).drop ((wrap64 (4 + (Go.bits .or .i64 (wrap64 ((wrap64 (rd l0 0)) * 256)) (wrap64 (rd l0 1))))) : Int).toNat)).toList then ((some (([] : List Int) : List Int)).bind fun y362 => (if 4 ≤ (wrap64 (4 + (Go.bits .or .i64 (wrap64 ((wrap64 (rd l0 0)) * 256)) (wrap64 (rd l0 1))))) then ((some ((l0.take ((wrap64 (4 + (Go.bits .or .i64 (wrap64 ((wrap64 (rd l0 0)) * 256)) (wrap64 (rd l0 1))))) : Int).toNat).drop 4 : List Int)).bind fun y365 => (if y362.length + y365.length < 140737488355328 then (some ((y362 ++ y365), wrap64 (6 + (Go.bits .or .i64 (wrap64 ((wrap64 (rd l0 0)) * 256)) (wrap64 (rd l0 1)))), 0)) else (none))) else (none))) else (some (([] : List Int), 0, 9))) else (none)) else (none)))) else (none)) else (none))) = some (r1, r2, r3) := by rw [if_neg (show ¬ (false = true) by decide)] at H; exact H
       clear H
       have H := H1
       clear H1
       by_cases c23 : (l0.length : Int) < (wrap64 (6 + (Go.bits .or .i64 (wrap64 ((wrap64 (rd l0 0)) * 256)) (wrap64 (rd l0 1)))))
       ·rw [if_pos c23] at H
        have c23b0 : decide ((l0.length : Int) < (wrap64 (6 + (Go.bits .or .i64 (wrap64 ((wrap64 (rd l0 0)) * 256)) (wrap64 (rd l0 1)))))) = true := decide_eq_true c23
        clear c23
        simp only [Option.some.injEq, Prod.mk.injEq] at H
        obtain ⟨rfl, rfl, rfl⟩ := H
        go_wp2
        go_ret3
        exact ⟨_, by first | rfl | (simp [errW_none, errW_some] <;> rfl) | (simp [*, errW_none, errW_some] <;> rfl), by first | exact Kd.R_nil _ _ _ _ _ | exact Kd.N_nil _ _ _ _ _ | exact Kd.V_nil _ _ _ _ _ | exact Kd.Q_nil _ _ _ _ _ | exact Kd.S_nil _ _ _ _ _, by repeat (first | (with_reducible first | exact HB.out | apply below_alloc | apply pw_below_drewN | apply below_drew1) | exact HB.out)⟩
       ·rw [if_neg c23] at H
        have c23b0 : decide ((l0.length : Int) < (wrap64 (6 + (Go.bits .or .i64 (wrap64 ((wrap64 (rd l0 0)) * 256)) (wrap64 (rd l0 1)))))) = false := decide_eq_false c23
        clear c23
        obtain ⟨ji24, hji24⟩ : ∃ j_ : Int, (wrap64 (4 + (Go.bits .or .i64 (wrap64 ((wrap64 (rd l0 0)) * 256)) (wrap64 (rd l0 1))))) = j_ := ⟨_, rfl⟩
        replace H : (if 0 ≤ (ji24) then (if (ji24) ≤ (l0.length : Int) then ((tumbrelref01_Sum.f kj4 (l0.take ((ji24) : Int).toNat)).bind fun t354 => ((tumbrelref01_two.f t354).bind fun t355 => (if (ji24) ≤ (wrap64 (6 + (Go.bits .or .i64 (wrap64 ((wrap64 (rd l0 0)) * 256)) (wrap64 (rd l0 1))))) then (if (wrap64 (6 + (Go.bits .or .i64 (wrap64 ((wrap64 (rd l0 0)) * 256)) (wrap64 (rd l0 1))))) ≤ (l0.length : Int) then (if (strOfNums t355).toList = (strOfNums ((l0.take ((wrap64 (6 + (Go.bits .or .i64 (wrap64 ((wrap64 (rd l0 0)) * 256)) (wrap64 (rd l0 1))))) : Int).toNat).drop ((ji24) : Int).toNat)).toList then ((some (([] : List Int) : List Int)).bind fun y362 => (if 4 ≤ (ji24) then ((some ((l0.take ((ji24) : Int).toNat).drop 4 : List Int)).bind fun y365 => (if y362.length + y365.length < 140737488355328 then (some ((y362 ++ y365), wrap64 (6 + (Go.bits .or .i64 (wrap64 ((wrap64 (rd l0 0)) * 256)) (wrap64 (rd l0 1)))), 0)) else (none))) else (none))) else (some (([] : List Int), 0, 9))) else (none)) else (none)))) else (none)) else (none)) = some (r1, r2, r3) := by first | (rw [hji24] at H; exact H) | (simp only [hji24] at H ⊢; exact H)
        have hji24w : (IntKind.i64.wrap (4 + (Go.bits .or .i64 (wrap64 ((wrap64 (rd l0 0)) * 256)) (wrap64 (rd l0 1))))) = ji24 := (i64_w _).trans hji24
        by_cases c25 : 0 ≤ (ji24)
        ·rw [if_pos c25] at H
         have c25b0 := eq_true c25
         have c25b1 : decide (0 ≤ (ji24)) = true := decide_eq_true c25
         clear c25
         by_cases c26 : (ji24) ≤ (l0.length : Int)
         ·rw [if_pos c26] at H
          have c26b0 := eq_true c26
          have c26b1 : decide ((ji24) ≤ (l0.length : Int)) = true := decide_eq_true c26
          clear c26
          obtain ⟨y350, hy350⟩ : ∃ y_ : List Int, y_ = (l0.take ((ji24) : Int).toNat) := ⟨_, rfl⟩
          replace H : ((tumbrelref01_Sum.f kj4 y350).bind fun t354 => ((tumbrelref01_two.f t354).bind fun t355 => (if (ji24) ≤ (wrap64 (6 + (Go.bits .or .i64 (wrap64 ((wrap64 (rd l0 0)) * 256)) (wrap64 (rd l0 1))))) then (if (wrap64 (6 + (Go.bits .or .i64 (wrap64 ((wrap64 (rd l0 0)) * 256)) (wrap64 (rd l0 1))))) ≤ (l0.length : Int) then (if (strOfNums t355).toList = (strOfNums ((l0.take ((wrap64 (6 + (Go.bits .or .i64 (wrap64 ((wrap64 (rd l0 0)) * 256)) (wrap64 (rd l0 1))))) : Int).toNat).drop ((ji24) : Int).toNat)).toList then ((some (([] : List Int) : List Int)).bind fun y362 => (if 4 ≤ (ji24) then ((some ((l0.take ((ji24) : Int).toNat).drop 4 : List Int)).bind fun y365 => (if y362.length + y365.length < 140737488355328 then (some ((y362 ++ y365), wrap64 (6 + (Go.bits .or .i64 (wrap64 ((wrap64 (rd l0 0)) * 256)) (wrap64 (rd l0 1)))), 0)) else (none))) else (none))) else (some (([] : List Int), 0, 9))) else (none)) else (none)))) = some (r1, r2, r3) := by first | (rw [hy350]; with_reducible exact H) | (have H2_ := (Option.bind_some _ _).symm.trans H; rw [hy350]; with_reducible exact H2_) | (have H2_ := (Option.bind_some _ _).symm.trans H; with_reducible exact H2_) | with_reducible exact H | (rw [hy350]; exact H) | exact H
          have Ny350 := Aside0.mk hy350
          clear hy350
          replace H := Option.bind_eq_some_iff.mp H
          obtain ⟨t354, A270, H⟩ := H
          replace H : ((tumbrelref01_two.f t354).bind fun t355 => (if (ji24) ≤ (wrap64 (6 + (Go.bits .or .i64 (wrap64 ((wrap64 (rd l0 0)) * 256)) (wrap64 (rd l0 1))))) then (if (wrap64 (6 + (Go.bits .or .i64 (wrap64 ((wrap64 (rd l0 0)) * 256)) (wrap64 (rd l0 1))))) ≤ (l0.length : Int) then (if (strOfNums t355).toList = (strOfNums ((l0.take ((wrap64 (6 + (Go.bits .or .i64 (wrap64 ((wrap64 (rd l0 0)) * 256)) (wrap64 (rd l0 1))))) : Int).toNat).drop ((ji24) : Int).toNat)).toList then ((some (([] : List Int) : List Int)).bind fun y362 => (if 4 ≤ (ji24) then ((some ((l0.take ((ji24) : Int).toNat).drop 4 : List Int)).bind fun y365 => (if y362.length + y365.length < 140737488355328 then (some ((y362 ++ y365), wrap64 (6 + (Go.bits .or .i64 (wrap64 ((wrap64 (rd l0 0)) * 256)) (wrap64 (rd l0 1)))), 0)) else (none))) else (none))) else (some (([] : List Int), 0, 9))) else (none)) else (none))) = some (r1, r2, r3) := H
          have A27 := Aside0.mk A270
          clear A270
          replace H := Option.bind_eq_some_iff.mp H
          obtain ⟨t355, A280, H⟩ := H
          replace H : (if (ji24) ≤ (wrap64 (6 + (Go.bits .or .i64 (wrap64 ((wrap64 (rd l0 0)) * 256)) (wrap64 (rd l0 1))))) then (if (wrap64 (6 + (Go.bits .or .i64 (wrap64 ((wrap64 (rd l0 0)) * 256)) (wrap64 (rd l0 1))))) ≤ (l0.length : Int) then (if (strOfNums t355).toList = (strOfNums ((l0.take ((wrap64 (6 + (Go.bits .or .i64 (wrap64 ((wrap64 (rd l0 0)) * 256)) (wrap64 (rd l0 1))))) : Int).toNat).drop ((ji24) : Int).toNat)).toList then ((some (([] : List Int) : List Int)).bind fun y362 => (if 4 ≤ (ji24) then ((some ((l0.take ((ji24) : Int).toNat).drop 4 : List Int)).bind fun y365 => (if y362.length + y365.length < 140737488355328 then (some ((y362 ++ y365), wrap64 (6 + (Go.bits .or .i64 (wrap64 ((wrap64 (rd l0 0)) * 256)) (wrap64 (rd l0 1)))), 0)) else (none))) else (none))) else (some (([] : List Int), 0, 9))) else (none)) else (none)) = some (r1, r2, r3) := H
          have A28 := Aside0.mk A280
          clear A280
          have c29b0 := eq_true (of_decide_eq_true kz9_4 : 0 ≤ (ji24))
          by_cases c30 : (ji24) ≤ (wrap64 (6 + (Go.bits .or .i64 (wrap64 ((wrap64 (rd l0 0)) * 256)) (wrap64 (rd l0 1)))))
          ·rw [if_pos c30] at H
           have c30b0 := eq_true c30
           have c30b1 : decide ((ji24) ≤ (wrap64 (6 + (Go.bits .or .i64 (wrap64 ((wrap64 (rd l0 0)) * 256)) (wrap64 (rd l0 1)))))) = true := decide_eq_true c30
           by_cases c31 : (wrap64 (6 + (Go.bits .or .i64 (wrap64 ((wrap64 (rd l0 0)) * 256)) (wrap64 (rd l0 1))))) ≤ (l0.length : Int)
           ·rw [if_pos c31] at H
            have c31b0 := eq_true c31
            have c31b1 : decide ((wrap64 (6 + (Go.bits .or .i64 (wrap64 ((wrap64 (rd l0 0)) * 256)) (wrap64 (rd l0 1))))) ≤ (l0.length : Int)) = true := decide_eq_true c31
            obtain ⟨y358, hy358⟩ : ∃ y_ : List Int, y_ = ((l0.take ((wrap64 (6 + (Go.bits .or .i64 (wrap64 ((wrap64 (rd l0 0)) * 256)) (wrap64 (rd l0 1))))) : Int).toNat).drop ((ji24) : Int).toNat) := ⟨_, rfl⟩
            replace H : (if (strOfNums t355).toList = (strOfNums y358).toList then ((some (([] : List Int) : List Int)).bind fun y362 => (if 4 ≤ (ji24) then ((some ((l0.take ((ji24) : Int).toNat).drop 4 : List Int)).bind fun y365 => (if y362.length + y365.length < 140737488355328 then (some ((y362 ++ y365), wrap64 (6 + (Go.bits .or .i64 (wrap64 ((wrap64 (rd l0 0)) * 256)) (wrap64 (rd l0 1)))), 0)) else (none))) else (none))) else (some (([] : List Int), 0, 9))) = some (r1, r2, r3) := by first | (rw [hy358]; with_reducible exact H) | (have H2_ := (Option.bind_some _ _).symm.trans H; rw [hy358]; with_reducible exact H2_) | (have H2_ := (Option.bind_some _ _).symm.trans H; with_reducible exact H2_) | with_reducible exact H | (rw [hy358]; exact H) | exact H
            have Ny358 := Aside0.mk hy358
            clear hy358
            by_cases c32 : (strOfNums t355).toList = (strOfNums y358).toList
            ·rw [if_pos c32] at H
             have c32b0 : ((strOfNums t355).toList == (strOfNums y358).toList) = true := beq_iff_eq.mpr c32
             have c32b1 : ((strOfNums t355).toList != (strOfNums y358).toList) = false := bne_eq_false_iff_eq.mpr c32
             clear c32
             obtain ⟨y362, hy362⟩ : ∃ y_ : List Int, y_ = (([] : List Int)) := ⟨_, rfl⟩
             replace H : (if 4 ≤ (ji24) then ((some ((l0.take ((ji24) : Int).toNat).drop 4 : List Int)).bind fun y365 => (if y362.length + y365.length < 140737488355328 then (some ((y362 ++ y365), wrap64 (6 + (Go.bits .or .i64 (wrap64 ((wrap64 (rd l0 0)) * 256)) (wrap64 (rd l0 1)))), 0)) else (none))) else (none)) = some (r1, r2, r3) := by first | (rw [hy362]; with_reducible exact H) | (have H2_ := (Option.bind_some _ _).symm.trans H; rw [hy362]; with_reducible exact H2_) | (have H2_ := (Option.bind_some _ _).symm.trans H; with_reducible exact H2_) | with_reducible exact H | (rw [hy362]; exact H) | exact H
             have Ny362 := Aside0.mk hy362
             clear hy362
             by_cases c33 : 4 ≤ (ji24)
             ·rw [if_pos c33] at H
              have c33b0 := eq_true c33
              have c33b1 : decide (4 ≤ (ji24)) = true := decide_eq_true c33
              clear c33
              have c34b0 := eq_true (of_decide_eq_true kz9_4 : (ji24) ≤ (l0.length : Int))
              obtain ⟨y365, hy365⟩ : ∃ y_ : List Int, y_ = ((l0.take ((ji24) : Int).toNat).drop 4) := ⟨_, rfl⟩
              replace H : (if y362.length + y365.length < 140737488355328 then (some ((y362 ++ y365), wrap64 (6 + (Go.bits .or .i64 (wrap64 ((wrap64 (rd l0 0)) * 256)) (wrap64 (rd l0 1)))), 0)) else (none)) = some (r1, r2, r3) := by first | (rw [hy365]; with_reducible exact H) | (have H2_ := (Option.bind_some _ _).symm.trans H; rw [hy365]; with_reducible exact H2_) | (have H2_ := (Option.bind_some _ _).symm.trans H; with_reducible exact H2_) | with_reducible exact H | (rw [hy365]; exact H) | exact H
              have Ny365 := Aside0.mk hy365
              clear hy365
              by_cases c35 : y362.length + y365.length < 140737488355328
              ·rw [if_pos c35] at H
               have LMc35 := Aside0.mk c35
               clear c35
               obtain ⟨y369, hy369⟩ : ∃ y_ : List Int, y_ = (y362 ++ y365) := ⟨_, rfl⟩
               replace H : (some (y369, wrap64 (6 + (Go.bits .or .i64 (wrap64 ((wrap64 (rd l0 0)) * 256)) (wrap64 (rd l0 1)))), 0)) = some (r1, r2, r3) := by first | (rw [hy369]; with_reducible exact H) | (have H2_ := (Option.bind_some _ _).symm.trans H; rw [hy369]; with_reducible exact H2_) | (have H2_ := (Option.bind_some _ _).symm.trans H; with_reducible exact H2_) | with_reducible exact H | (rw [hy369]; exact H) | exact H
               have Ny369 := Aside0.mk hy369
               clear hy369
               simp only [Option.some.injEq, Prod.mk.injEq] at H
               obtain ⟨rfl, rfl, rfl⟩ := H
               try go_wp2
               have n0_ := Aside0.mk (below_drew1 HB.out)
               clear HB
               have HB := n0_
               clear n0_
               have q37 : ((ji24) : Int) ≤ ((l0.length : Int) : Int) := of_decide_eq_true kz9_4
               obtain ⟨i037, hi037, _, hsz37, _⟩ := info_parts info5
               have hroom37 : l0.length ≤ c0 := HC0.out
               have hC37 : Kd.C (Kd.int .u8) _ (some ad336) l0.length l0 := HR0.out
               have hcut37 := cut_to (P := Try.prog) 50 5 .i64 Try.underlying50 hi037 (some ad336) l0.length c0 (ji24) (of_decide_eq_true kz9_4) q37 hroom37
               have hr37 := Kd.C_take (m := ((ji24) : Int).toNat) hC37 (by omega)
               have hy37 : y350.length = ((ji24) : Int).toNat := (by rw [Ny350.out, List.length_take]; omega)
               rw [← Ny350.out] at hr37
               rw [← hy37] at hcut37
               have HR353 := Aside0.mk hr37
               have HC353 := Aside0.mk (show y350.length ≤ c0 from by omega)
               clear hr37 hC37 hroom37 hi037 hsz37
               have KY37 := Aside0.mk hy37
               clear hy37
               replace q37 := eq_true q37
               have q38 : ((wrap64 (6 + (Go.bits .or .i64 (wrap64 ((wrap64 (rd l0 0)) * 256)) (wrap64 (rd l0 1))))) : Int) ≤ ((l0.length : Int) : Int) := of_decide_eq_true kz9_4
               obtain ⟨i038, hi038, _, hsz38, _⟩ := info_parts info5
               have hroom38 : l0.length ≤ c0 := HC0.out
               have hC38 : Kd.C (Kd.int .u8) _ (some ad336) l0.length l0 := HR0.out
               have ql38 : ((ji24) : Int) ≤ ((wrap64 (6 + (Go.bits .or .i64 (wrap64 ((wrap64 (rd l0 0)) * 256)) (wrap64 (rd l0 1))))) : Int) := of_decide_eq_true kz9_4
               have q038 : (0 : Int) ≤ ((ji24) : Int) := of_decide_eq_true kz9_4
               have hcut38 := cut_mid (P := Try.prog) 50 5 .i64 .i64 Try.underlying50 hi038 1 hsz38 (some ad336) l0.length c0 (ji24) (wrap64 (6 + (Go.bits .or .i64 (wrap64 ((wrap64 (rd l0 0)) * 256)) (wrap64 (rd l0 1))))) q038 ql38 q38 hroom38
               have hr38 := Kd.C_mid (lo := ((ji24) : Int).toNat) (hi := ((wrap64 (6 + (Go.bits .or .i64 (wrap64 ((wrap64 (rd l0 0)) * 256)) (wrap64 (rd l0 1))))) : Int).toNat) (c := c0) hC38 (by omega) (by omega) hroom38
               obtain ⟨A38, hA38⟩ : ∃ A1, A1 = (if c0 = ((ji24) : Int).toNat then (some ad336) else ((some ad336) : Option Addr).map (·.add (((ji24) : Int).toNat * 1))) := ⟨_, rfl⟩
               obtain ⟨c38, hc38⟩ : ∃ c1, c1 = c0 - ((ji24) : Int).toNat := ⟨_, rfl⟩
               have hy38 : y358.length = ((wrap64 (6 + (Go.bits .or .i64 (wrap64 ((wrap64 (rd l0 0)) * 256)) (wrap64 (rd l0 1))))) : Int).toNat - ((ji24) : Int).toNat := (by rw [Ny358.out, List.length_drop, List.length_take] <;> omega)
               rw [show ((l0).take ((wrap64 (6 + (Go.bits .or .i64 (wrap64 ((wrap64 (rd l0 0)) * 256)) (wrap64 (rd l0 1))))) : Int).toNat).drop ((ji24) : Int).toNat = y358 from Ny358.out.symm] at hr38
               replace hr38 : Kd.C (Kd.int .u8) _ A38 y358.length y358 := (by rw [hA38]; exact hr38)
               rw [← hy38, ← hA38, ← hc38] at hcut38
               have HR361 := Aside0.mk hr38
               have HC361 := Aside0.mk (show y358.length ≤ c38 from by rw [hy38, hc38]; exact Nat.sub_le_sub_right (Nat.le_trans (by omega) hroom38) _)
               clear hr38 hC38 hroom38 hi038 hsz38 hc38
               have KY38 := Aside0.mk hy38
               have KA38 := Aside0.mk hA38
               clear hy38 hA38
               replace q38 := eq_true q38
               refine start_ (n := 15) (S := fun w' => True) (ds := []) #[false, false, false, false, false, false, false, false, false, false, false, false, false, false, false] (by kernel_rfl) rfl rfl trivial (fun hHeld => ?_); refine with_tabW tumbrelref01_Open.tab8 tumbrelref01_Open.bits8 (fun HT_ HW_ => ?_)
               generalize wc.drew = w36 at HB HR353 HR361 hHeld ⊢
               refine pure_ (i := 0) (N := some 41) (v := ?_) (a' := ?_) #[true, false, false, false, false, false, false, false, false, false, false, false, false, false, false] rfl rfl (any_of HT_.out (by kernel_rfl)) (fun _ _ _ h => h) (Or.inl ⟨by rfl, ?_⟩) ?_ ?_
               rotate_left
               ·intro w'
                go_simp
                with_reducible rfl
               rotate_left
               ·simp only [Act.put, sA_, sB_, sC_, i64_w, i32_w]
                rfl
               refine pure_ (i := 1) (N := some 42) (v := ?_) (a' := ?_) #[true, true, false, false, false, false, false, false, false, false, false, false, false, false, false] rfl rfl (any_of HT_.out (by kernel_rfl)) (fun _ _ _ h => h) (Or.inl ⟨by rfl, ?_⟩) ?_ ?_
               rotate_left
               ·intro w'
                go_simp
                with_reducible rfl
               rotate_left
               ·simp only [Act.put, sA_, sB_, sC_, i64_w, i32_w]
                rfl
               refine pure_ (i := 2) (N := some 43) (v := ?_) (a' := ?_) #[true, true, true, false, false, false, false, false, false, false, false, false, false, false, false] rfl rfl (any_of HT_.out (by kernel_rfl)) (fun _ _ _ h => h) (Or.inl ⟨by rfl, ?_⟩) ?_ ?_
               rotate_left
               ·intro w'
                go_simp
                with_reducible rfl
               rotate_left
               ·simp only [Act.put, sA_, sB_, sC_, i64_w, i32_w]
                rfl
               refine pure_ (i := 3) (N := some 44) (v := ?_) (a' := ?_) #[true, true, true, true, false, false, false, false, false, false, false, false, false, false, false] rfl rfl (any_of HT_.out (by kernel_rfl)) (fun _ _ _ h => h) (Or.inl ⟨by rfl, ?_⟩) ?_ ?_
               rotate_left
               ·intro w'
                go_simp
                with_reducible rfl
               rotate_left
               ·simp only [Act.put, sA_, sB_, sC_, i64_w, i32_w]
                rfl
               refine pure_ (i := 7) (N := some 48) (v := ?_) (a' := ?_) #[true, true, true, true, false, false, false, true, false, false, false, false, false, false, false] rfl rfl (any_of HT_.out (by kernel_rfl)) (fun _ _ _ h => h) (Or.inl ⟨by rfl, ?_⟩) ?_ ?_
               rotate_left
               ·intro w'
                go_simp
                with_reducible rfl
               rotate_left
               ·simp only [Act.put, sA_, sB_, sC_, i64_w, i32_w]
                rfl
               refine pure_ (i := 8) (N := some 49) (v := ?_) (a' := ?_) #[true, true, true, true, false, false, false, true, true, false, false, false, false, false, false] rfl rfl (any_of HT_.out (by kernel_rfl)) (fun _ _ _ h => h) (Or.inl ⟨by rfl, ?_⟩) ?_ ?_
               rotate_left
               ·intro w'
                go_simp
                with_reducible rfl
               rotate_left
               ·simp only [Act.put, sA_, sB_, sC_, i64_w, i32_w]
                rfl
               refine pure_ (i := 9) (N := some 50) (v := ?_) (a' := ?_) #[true, true, true, true, false, false, false, true, true, true, false, false, false, false, false] rfl rfl (any_of HT_.out (by kernel_rfl)) (fun _ _ _ h => h) (Or.inl ⟨by rfl, ?_⟩) ?_ ?_
               rotate_left
               ·intro w'
                go_simp
                with_reducible rfl
               rotate_left
               ·simp only [Act.put, sA_, sB_, sC_, i64_w, i32_w]
                rfl
               refine pure_ (i := 10) (N := some 51) (v := ?_) (a' := ?_) #[true, true, true, true, false, false, false, true, true, true, true, false, false, false, false] rfl rfl (any_of HT_.out (by kernel_rfl)) (fun _ _ _ h => h) (Or.inl ⟨by rfl, ?_⟩) ?_ ?_
               rotate_left
               ·intro w'
                go_simp
                with_reducible rfl
               rotate_left
               ·simp only [Act.put, sA_, sB_, sC_, i64_w, i32_w]
                rfl
               refine pure_ (i := 11) (N := some 52) (v := ?_) (a' := ?_) #[true, true, true, true, false, false, false, true, true, true, true, true, false, false, false] rfl rfl (any_of HT_.out (by kernel_rfl)) (fun _ _ _ h => h) (Or.inl ⟨by rfl, ?_⟩) ?_ ?_
               rotate_left
               ·intro w'
                go_simp
                with_reducible rfl
               rotate_left
               ·simp only [Act.put, sA_, sB_, sC_, i64_w, i32_w]
                rfl
               refine pure_ (i := 12) (N := some 53) (v := ?_) (a' := ?_) #[true, true, true, true, false, false, false, true, true, true, true, true, true, false, false] rfl rfl (any_of HT_.out (by kernel_rfl)) (fun _ _ _ h => h) (Or.inl ⟨by rfl, ?_⟩) ?_ ?_
               rotate_left
               ·intro w'
                go_simp
                with_reducible rfl
               rotate_left
               ·simp only [Act.put, sA_, sB_, sC_, i64_w, i32_w]
                rfl
               refine join_ (σ := Value) 1 #[true, true, true, true, true, true, true, true, true, true, true, true, true, true, false] (fun s_ => [(45, .int .u16 t354), (46, s_), (47, .string (strOfNums t355)), (54, .string (strOfNums y358))]) (fun s_ w' => (Kd.R (Kd.int .u8) 5 w' w.heap.size (fun _ => True) s_ t355) ∧ (Below w.heap.size w w')) ?_ ?_
               rotate_left
               ·intro hCont
                refine two_ (i := 4) (j := 13) (Ni := some 45) (Nj := some 54) #[true, true, true, true, true, false, false, true, true, true, true, true, true, false, false] #[true, true, true, true, false, false, false, true, true, true, true, true, true, true, false] rfl rfl rfl rfl (two_of HT_.out (by kernel_rfl)) (by decide) (by decide) (fun K hK => ?_) (fun K hK => ?_)
                ·skip
                 refine goes_ Try.func74 (by kernel_rfl) rfl #[.slice (some ad336) y350.length c0] (by rfl) rfl rfl kz9_2 ?_
                 with_reducible refine (tumbrelref01_Sum.calls kj4 _ _ y350 t354 _ ?side1 ?side2 A27.out).mono ?_
                 (case side1 => repeat (first | exact (Kd.C_below HR353.out HB.out) | (with_reducible refine Kd.C_alloc ?_ _) | (with_reducible refine Kd.C_drewN ?_ _) | (with_reducible refine Kd.C_drew ?_)))
                 (case side2 => exact HC353.out)
                 rintro e w' ⟨rfl, ⟨nd, rfl⟩⟩
                 refine ⟨_, rfl, ?_⟩
                 refine hK.out _ _ trivial (fun hHeld => ?_)
                 clear hK K
                 refine norm_ (a' := ?_) ?_ ?_
                 rotate_left
                 ·show Act.put _ (some 45) _ = _
                  simp only [Act.put, sA_, sB_, sC_, i64_w, i32_w]
                  rfl
                 refine two_ (i := 5) (j := 13) (Ni := some 46) (Nj := some 54) #[true, true, true, true, true, true, false, true, true, true, true, true, true, false, false] #[true, true, true, true, true, false, false, true, true, true, true, true, true, true, false] rfl rfl rfl rfl (two_of HT_.out (by kernel_rfl)) (by decide) (by decide) (fun K hK => ?_) (fun K hK => ?_)
                 ·skip
                  refine goes_ Try.func73 (by kernel_rfl) rfl #[.int .u16 t354] (by rfl) rfl rfl kz9_2 ?_
                  with_reducible refine (tumbrelref01_two.calls t354 t355 _ A28.out).mono ?_
                  rintro e w39 ⟨v356, rfl, ho0, hb⟩
                  refine ⟨_, rfl, ?_⟩
                  have n0_ := Aside0.mk (Kd.R_lower ho0 (below_size kz9_1))
                  have n1_ := Aside0.mk (below_step kz9_1 hb)
                  clear HB
                  have HO357 := n0_
                  have HB := n1_
                  clear n0_ n1_
                  (try clear hb)
                  (try clear hb2)
                  (try clear hk)
                  (try clear hi)
                  (try clear ho0)
                  refine hK.out _ _ trivial (fun hHeld => ?_)
                  clear hK K
                  refine norm_ (a' := ?_) ?_ ?_
                  rotate_left
                  ·show Act.put _ (some 46) _ = _
                   simp only [Act.put, sA_, sB_, sC_, i64_w, i32_w]
                   rfl
                  refine two_ (i := 6) (j := 13) (Ni := some 47) (Nj := some 54) #[true, true, true, true, true, true, true, true, true, true, true, true, true, false, false] #[true, true, true, true, true, true, false, true, true, true, true, true, true, true, false] rfl rfl rfl rfl (two_of HT_.out (by kernel_rfl)) (by decide) (by decide) (fun K hK => ?_) (fun K hK => ?_)
                  ·skip
                   have hcv40 := own_string (P := Try.prog) Try.underlying50 Try.underlying5 Try.underlying9 (Kd.own_of_R HO357.out)
                   refine value_ (w1 := ?_) (v := ?_) (by rfl) rfl ?_ ?_
                   rotate_left 2
                   ·go_simp
                    constructor
                    ·rfl
                    ·rfl
                   clear hcv40
                   refine hK.out _ _ trivial (fun hHeld => ?_)
                   clear hK K
                   refine norm_ (a' := ?_) ?_ ?_
                   rotate_left
                   ·show Act.put _ (some 47) _ = _
                    simp only [Act.put, sA_, sB_, sC_, i64_w, i32_w]
                    rfl
                   refine one_ (i := 13) (N := some 54) #[true, true, true, true, true, true, true, true, true, true, true, true, true, true, false] rfl rfl (one_of HT_.out (by kernel_rfl)) (by decide) (fun K hK => ?_)
                   have hcv41 := Kd.C_string (P := Try.prog) (A := A38) (c := c38) Try.underlying50 Try.underlying5 Try.underlying9 (Kd.C_below HR361.out HB.out); have hcv41d := fun m_ => Kd.C_string (P := Try.prog) (A := A38) (c := c38) Try.underlying50 Try.underlying5 Try.underlying9 (Kd.C_drewN ((Kd.C_below HR361.out HB.out)) m_)
                   refine value_ (w1 := ?_) (v := ?_) (by rfl) rfl ?_ ?_
                   rotate_left 2
                   ·go_simp
                    constructor
                    ·rfl
                    ·rfl
                   clear hcv41 hcv41d
                   refine hK.out _ _ trivial (fun hHeld => ?_)
                   clear hK K
                   refine norm_ (a' := ?_) ?_ ?_
                   rotate_left
                   ·show Act.put _ (some 54) _ = _
                    simp only [Act.put, sA_, sB_, sC_, i64_w, i32_w]
                    rfl
                   exact norm_ kz9_5 (hCont (v356) _ ⟨kz9_3, kz9_1⟩)
                  ·skip
                   have hcv40 := Kd.C_string (P := Try.prog) (A := A38) (c := c38) Try.underlying50 Try.underlying5 Try.underlying9 (Kd.C_below HR361.out HB.out); have hcv40d := fun m_ => Kd.C_string (P := Try.prog) (A := A38) (c := c38) Try.underlying50 Try.underlying5 Try.underlying9 (Kd.C_drewN ((Kd.C_below HR361.out HB.out)) m_)
                   refine value_ (w1 := ?_) (v := ?_) (by rfl) rfl ?_ ?_
                   rotate_left 2
                   ·go_simp
                    constructor
                    ·rfl
                    ·rfl
                   clear hcv40 hcv40d
                   refine hK.out _ _ trivial (fun hHeld => ?_)
                   clear hK K
                   refine norm_ (a' := ?_) ?_ ?_
                   rotate_left
                   ·show Act.put _ (some 54) _ = _
                    simp only [Act.put, sA_, sB_, sC_, i64_w, i32_w]
                    rfl
                   refine one_ (i := 6) (N := some 47) #[true, true, true, true, true, true, true, true, true, true, true, true, true, true, false] rfl rfl (one_of HT_.out (by kernel_rfl)) (by decide) (fun K hK => ?_)
                   have hcv41 := own_string (P := Try.prog) Try.underlying50 Try.underlying5 Try.underlying9 (Kd.own_of_R HO357.out)
                   refine value_ (w1 := ?_) (v := ?_) (by rfl) rfl ?_ ?_
                   rotate_left 2
                   ·go_simp
                    constructor
                    ·rfl
                    ·rfl
                   clear hcv41
                   refine hK.out _ _ trivial (fun hHeld => ?_)
                   clear hK K
                   refine norm_ (a' := ?_) ?_ ?_
                   rotate_left
                   ·show Act.put _ (some 47) _ = _
                    simp only [Act.put, sA_, sB_, sC_, i64_w, i32_w]
                    rfl
                   exact norm_ kz9_5 (hCont (v356) _ ⟨kz9_3, kz9_1⟩)
                 ·skip
                  have hcv39 := Kd.C_string (P := Try.prog) (A := A38) (c := c38) Try.underlying50 Try.underlying5 Try.underlying9 (Kd.C_below HR361.out HB.out); have hcv39d := fun m_ => Kd.C_string (P := Try.prog) (A := A38) (c := c38) Try.underlying50 Try.underlying5 Try.underlying9 (Kd.C_drewN ((Kd.C_below HR361.out HB.out)) m_)
                  refine value_ (w1 := ?_) (v := ?_) (by rfl) rfl ?_ ?_
                  rotate_left 2
                  ·go_simp
                   constructor
                   ·rfl
                   ·rfl
                  clear hcv39 hcv39d
                  refine hK.out _ _ trivial (fun hHeld => ?_)
                  clear hK K
                  refine norm_ (a' := ?_) ?_ ?_
                  rotate_left
                  ·show Act.put _ (some 54) _ = _
                   simp only [Act.put, sA_, sB_, sC_, i64_w, i32_w]
                   rfl
                  refine one_ (i := 5) (N := some 46) #[true, true, true, true, true, true, false, true, true, true, true, true, true, true, false] rfl rfl (one_of HT_.out (by kernel_rfl)) (by decide) (fun K hK => ?_)
                  refine goes_ Try.func73 (by kernel_rfl) rfl #[.int .u16 t354] (by rfl) rfl rfl kz9_2 ?_
                  with_reducible refine (tumbrelref01_two.calls t354 t355 _ A28.out).mono ?_
                  rintro e w40 ⟨v356, rfl, ho0, hb⟩
                  refine ⟨_, rfl, ?_⟩
                  have n0_ := Aside0.mk (Kd.R_lower ho0 (below_size kz9_1))
                  have n1_ := Aside0.mk (below_step kz9_1 hb)
                  clear HB
                  have HO357 := n0_
                  have HB := n1_
                  clear n0_ n1_
                  (try clear hb)
                  (try clear hb2)
                  (try clear hk)
                  (try clear hi)
                  (try clear ho0)
                  refine hK.out _ _ trivial (fun hHeld => ?_)
                  clear hK K
                  refine norm_ (a' := ?_) ?_ ?_
                  rotate_left
                  ·show Act.put _ (some 46) _ = _
                   simp only [Act.put, sA_, sB_, sC_, i64_w, i32_w]
                   rfl
                  refine one_ (i := 6) (N := some 47) #[true, true, true, true, true, true, true, true, true, true, true, true, true, true, false] rfl rfl (one_of HT_.out (by kernel_rfl)) (by decide) (fun K hK => ?_)
                  have hcv41 := own_string (P := Try.prog) Try.underlying50 Try.underlying5 Try.underlying9 (Kd.own_of_R HO357.out)
                  refine value_ (w1 := ?_) (v := ?_) (by rfl) rfl ?_ ?_
                  rotate_left 2
                  ·go_simp
                   constructor
                   ·rfl
                   ·rfl
                  clear hcv41
                  refine hK.out _ _ trivial (fun hHeld => ?_)
                  clear hK K
                  refine norm_ (a' := ?_) ?_ ?_
                  rotate_left
                  ·show Act.put _ (some 47) _ = _
                   simp only [Act.put, sA_, sB_, sC_, i64_w, i32_w]
                   rfl
                  exact norm_ kz9_5 (hCont (v356) _ ⟨kz9_3, kz9_1⟩)
                ·skip
                 have hcv39 := Kd.C_string (P := Try.prog) (A := A38) (c := c38) Try.underlying50 Try.underlying5 Try.underlying9 (Kd.C_below HR361.out HB.out); have hcv39d := fun m_ => Kd.C_string (P := Try.prog) (A := A38) (c := c38) Try.underlying50 Try.underlying5 Try.underlying9 (Kd.C_drewN ((Kd.C_below HR361.out HB.out)) m_)
                 refine value_ (w1 := ?_) (v := ?_) (by rfl) rfl ?_ ?_
                 rotate_left 2
                 ·go_simp
                  constructor
                  ·rfl
                  ·rfl
                 clear hcv39 hcv39d
                 refine hK.out _ _ trivial (fun hHeld => ?_)
                 clear hK K
                 refine norm_ (a' := ?_) ?_ ?_
                 rotate_left
                 ·show Act.put _ (some 54) _ = _
                  simp only [Act.put, sA_, sB_, sC_, i64_w, i32_w]
                  rfl
                 refine one_ (i := 4) (N := some 45) #[true, true, true, true, true, false, false, true, true, true, true, true, true, true, false] rfl rfl (one_of HT_.out (by kernel_rfl)) (by decide) (fun K hK => ?_)
                 refine goes_ Try.func74 (by kernel_rfl) rfl #[.slice (some ad336) y350.length c0] (by rfl) rfl rfl kz9_2 ?_
                 with_reducible refine (tumbrelref01_Sum.calls kj4 _ _ y350 t354 _ ?side1 ?side2 A27.out).mono ?_
                 (case side1 => repeat (first | exact (Kd.C_below HR353.out HB.out) | (with_reducible refine Kd.C_alloc ?_ _) | (with_reducible refine Kd.C_drewN ?_ _) | (with_reducible refine Kd.C_drew ?_)))
                 (case side2 => exact HC353.out)
                 rintro e w' ⟨rfl, ⟨nd, rfl⟩⟩
                 refine ⟨_, rfl, ?_⟩
                 refine hK.out _ _ trivial (fun hHeld => ?_)
                 clear hK K
                 refine norm_ (a' := ?_) ?_ ?_
                 rotate_left
                 ·show Act.put _ (some 45) _ = _
                  simp only [Act.put, sA_, sB_, sC_, i64_w, i32_w]
                  rfl
                 refine one_ (i := 5) (N := some 46) #[true, true, true, true, true, true, false, true, true, true, true, true, true, true, false] rfl rfl (one_of HT_.out (by kernel_rfl)) (by decide) (fun K hK => ?_)
                 refine goes_ Try.func73 (by kernel_rfl) rfl #[.int .u16 t354] (by rfl) rfl rfl kz9_2 ?_
                 with_reducible refine (tumbrelref01_two.calls t354 t355 _ A28.out).mono ?_
                 rintro e w40 ⟨v356, rfl, ho0, hb⟩
                 refine ⟨_, rfl, ?_⟩
                 have n0_ := Aside0.mk (Kd.R_lower ho0 (below_size kz9_1))
                 have n1_ := Aside0.mk (below_step kz9_1 hb)
                 clear HB
                 have HO357 := n0_
                 have HB := n1_
                 clear n0_ n1_
                 (try clear hb)
                 (try clear hb2)
                 (try clear hk)
                 (try clear hi)
                 (try clear ho0)
                 refine hK.out _ _ trivial (fun hHeld => ?_)
                 clear hK K
                 refine norm_ (a' := ?_) ?_ ?_
                 rotate_left
                 ·show Act.put _ (some 46) _ = _
                  simp only [Act.put, sA_, sB_, sC_, i64_w, i32_w]
                  rfl
                 refine one_ (i := 6) (N := some 47) #[true, true, true, true, true, true, true, true, true, true, true, true, true, true, false] rfl rfl (one_of HT_.out (by kernel_rfl)) (by decide) (fun K hK => ?_)
                 have hcv41 := own_string (P := Try.prog) Try.underlying50 Try.underlying5 Try.underlying9 (Kd.own_of_R HO357.out)
                 refine value_ (w1 := ?_) (v := ?_) (by rfl) rfl ?_ ?_
                 rotate_left 2
                 ·go_simp
                  constructor
                  ·rfl
                  ·rfl
                 clear hcv41
                 refine hK.out _ _ trivial (fun hHeld => ?_)
                 clear hK K
                 refine norm_ (a' := ?_) ?_ ?_
                 rotate_left
                 ·show Act.put _ (some 47) _ = _
                  simp only [Act.put, sA_, sB_, sC_, i64_w, i32_w]
                  rfl
                 exact norm_ kz9_5 (hCont (v356) _ ⟨kz9_3, kz9_1⟩)
               rintro v356 w42 ⟨h0_, h1_⟩
               have n0_ : Aside0 (Kd.R (Kd.int .u8) 5 w42 w.heap.size (fun _ => True) v356 t355) := ⟨h0_⟩
               have n1_ : Aside0 (Below w.heap.size w w42) := ⟨h1_⟩
               clear HB
               clear h0_ h1_
               have HO357 := n0_
               have HB := n1_
               clear n0_ n1_
               have hHeld := trivial
               refine norm_ (a' := ?_) ?_ ?_
               rotate_left
               ·simp only [putAll, Act.put, sA_, sB_, sC_]
                rfl
               refine pure_ (i := 14) (N := some 55) (v := ?_) (a' := ?_) #[true, true, true, true, true, true, true, true, true, true, true, true, true, true, true] rfl rfl (any_of HT_.out (by kernel_rfl)) (fun _ _ _ h => h) (Or.inl ⟨by rfl, ?_⟩) ?_ ?_
               rotate_left
               ·intro w'
                go_simp
                with_reducible rfl
               rotate_left
               ·simp only [Act.put, sA_, sB_, sC_, i64_w, i32_w]
                rfl
               refine done_ (done_of HT_.out (by kernel_rfl)) ?_
               try go_wp2_with (first | ((with_reducible refine gate_dst (N := 56) rfl ?_); refine Kd.R_lit (Kd.int .u8) _ 5 ?hg (N := 56) ?hd (xs := ([] : List Int)) (inner := []) (ok := fun _ => True) (okp := fun _ => True) ?hr ?hp (fun _ hk => hk) trivial (Below.refl _ _) (Nat.le_refl _) (by simp) ?_; (case hd => rfl); (case hg => rfl); (case hr => first | (go_simp; done) | (go_simp; rfl)); (case hp => exact (Reps.none _ _)); intro v363 w43 ho44 hb hg_ hnew_; clear hg_ hnew_; (first | rw [← Ny362.out] at ho44 | (simp only [Int.reduceToNat] at ho44; rw [← Ny362.out] at ho44)); have n0_ := Aside0.mk (Kd.R_elder' kz9_3 (Kd.R_base ho44) hb); have n1_ := Aside0.mk (Kd.R_lower (Kd.R_new' ho44 (Kd.R_lt kz9_3)) (below_size kz9_1)); have n2_ := Aside0.mk (below_step kz9_1 hb); clear HO357; clear HB; have HO357 := n0_; have HO364 := n1_; have HB := n2_; clear n0_ n1_ n2_; clear hb ho44; have q45 : ((ji24) : Int) ≤ ((l0.length : Int) : Int) := of_decide_eq_true kz9_4; obtain ⟨i045, hi045, _, hsz45, _⟩ := info_parts info5; have hroom45 : l0.length ≤ c0 := HC0.out; have hC45 : Kd.C (Kd.int .u8) _ (some ad336) l0.length l0 := HR0.out; have ql45 : (4 : Int) ≤ ((ji24) : Int) := of_decide_eq_true kz9_4; have hcut45 := cut_mid (P := Try.prog) 50 5 .i64 .i64 Try.underlying50 hi045 1 hsz45 (some ad336) l0.length c0 4 (ji24) (by omega) ql45 q45 hroom45; have hr45 := Kd.C_mid (lo := (4 : Int).toNat) (hi := ((ji24) : Int).toNat) (c := c0) hC45 (by omega) (by omega) hroom45; obtain ⟨A45, hA45⟩ : ∃ A1, A1 = (if c0 = (4 : Int).toNat then (some ad336) else ((some ad336) : Option Addr).map (·.add ((4 : Int).toNat * 1))) := ⟨_, rfl⟩; obtain ⟨c45, hc45⟩ : ∃ c1, c1 = c0 - (4 : Int).toNat := ⟨_, rfl⟩; have hy45 : y365.length = ((ji24) : Int).toNat - (4 : Int).toNat := (by rw [Ny365.out, List.length_drop, List.length_take] <;> omega); rw [show ((l0).take ((ji24) : Int).toNat).drop (4 : Int).toNat = y365 from Ny365.out.symm] at hr45; replace hr45 : Kd.C (Kd.int .u8) _ A45 y365.length y365 := (by rw [hA45]; exact hr45); rw [← hy45, ← hA45, ← hc45] at hcut45; have HR368 := Aside0.mk hr45; have HC368 := Aside0.mk (show y365.length ≤ c45 from by rw [hy45, hc45]; exact Nat.sub_le_sub_right (Nat.le_trans (by omega) hroom45) _); clear hr45 hC45 hroom45 hi045 hsz45 hc45; have KY45 := Aside0.mk hy45; have KA45 := Aside0.mk hA45; clear hy45 hA45; replace q45 := eq_true q45) | ((with_reducible refine gate_builtin (b := .append) (xs := #[.tmp 56, .tmp 60]) rfl ?_); at_builtin; refine Kd.R_append_rows (Kd.int .u8) (w0 := w) w.heap.size rfl (.tmp 56) (.tmp 60) 50 5 (.int .u8 0) 1 rfl Try.underlying50 info5 rfl (by decide) (by omega) v363 y362 y365 _ _ _ (fun k_ => some k_ ≠ (v356 : Value).ownBlock) (fun _ => False) rfl rfl ?aO ?aR (fun _ _ h => h) (fun _ h => h.elim) ?aF ?aB ?aS ?aL ?_; (case aR => repeat (first | exact (Kd.C_below HR368.out HB.out) | (with_reducible refine Kd.C_alloc ?_ _) | (with_reducible refine Kd.C_drewN ?_ _) | (with_reducible refine Kd.C_drew ?_))); (case aB => exact kz9_1); (case aF => exact (fun k_ hk => Kd.fresh' (Kd.R_lt kz9_3) k_ hk)); (case aO => exact (by (with_reducible repeat (first | apply Kd.R_alloc | apply Kd.R_drewN | apply Kd.R_drew)); exact Kd.R_mono HO364.out (fun _ hk => hk.2))); (case aS => exact (below_size kz9_1)); (case aL => have := LMc35.out; omega); intro v370 w46 ho hb hg hat; rw [← Ny369.out] at ho; have n0_ := Aside0.mk (Kd.R_after (ok := (fun _ => True)) kz9_3 hg hat); have n1_ := Aside0.mk (hb); have n2_ := Aside0.mk (ho); clear HO357; clear HB; clear HO364; have HO357 := n0_; have HB := n1_; have HO371 := n2_; clear n0_ n1_ n2_; clear ho hb hg hat))
               go_ret3
               exact ⟨_, by first | rfl | (simp [errW_none, errW_some] <;> rfl) | (simp only [← hji24]; first | rfl | (simp [errW_none, errW_some] <;> rfl)) | (simp [*, errW_none, errW_some] <;> rfl), by (with_reducible repeat (first | apply Kd.R_alloc | apply Kd.R_drewN | apply Kd.R_drew)); exact Kd.R_mono HO371.out (fun _ hk => trivial), by repeat (first | (with_reducible first | exact HB.out | apply below_alloc | apply pw_below_drewN | apply below_drew1) | exact HB.out)⟩
              ·rw [if_neg c35] at H
               exact absurd H (by simp)
             ·rw [if_neg c33] at H
              exact absurd H (by simp)
            ·rw [if_neg c32] at H
             have c32b0 : ((strOfNums t355).toList == (strOfNums y358).toList) = false := beq_eq_false_iff_ne.mpr c32
             have c32b1 : ((strOfNums t355).toList != (strOfNums y358).toList) = true := bne_iff_ne.mpr c32
             simp only [Option.some.injEq, Prod.mk.injEq] at H
             obtain ⟨rfl, rfl, rfl⟩ := H
             try go_wp2
             have n0_ := Aside0.mk (below_drew1 HB.out)
             clear HB
             have HB := n0_
             clear n0_
             have q48 : ((ji24) : Int) ≤ ((l0.length : Int) : Int) := of_decide_eq_true kz9_4
             obtain ⟨i048, hi048, _, hsz48, _⟩ := info_parts info5
             have hroom48 : l0.length ≤ c0 := HC0.out
             have hC48 : Kd.C (Kd.int .u8) _ (some ad336) l0.length l0 := HR0.out
             have hcut48 := cut_to (P := Try.prog) 50 5 .i64 Try.underlying50 hi048 (some ad336) l0.length c0 (ji24) (of_decide_eq_true kz9_4) q48 hroom48
             have hr48 := Kd.C_take (m := ((ji24) : Int).toNat) hC48 (by omega)
             have hy48 : y350.length = ((ji24) : Int).toNat := (by rw [Ny350.out, List.length_take]; omega)
             rw [← Ny350.out] at hr48
             rw [← hy48] at hcut48
             have HR353 := Aside0.mk hr48
             have HC353 := Aside0.mk (show y350.length ≤ c0 from by omega)
             clear hr48 hC48 hroom48 hi048 hsz48
             have KY48 := Aside0.mk hy48
             clear hy48
             replace q48 := eq_true q48
             have q49 : ((wrap64 (6 + (Go.bits .or .i64 (wrap64 ((wrap64 (rd l0 0)) * 256)) (wrap64 (rd l0 1))))) : Int) ≤ ((l0.length : Int) : Int) := of_decide_eq_true kz9_4
             obtain ⟨i049, hi049, _, hsz49, _⟩ := info_parts info5
             have hroom49 : l0.length ≤ c0 := HC0.out
             have hC49 : Kd.C (Kd.int .u8) _ (some ad336) l0.length l0 := HR0.out
             have ql49 : ((ji24) : Int) ≤ ((wrap64 (6 + (Go.bits .or .i64 (wrap64 ((wrap64 (rd l0 0)) * 256)) (wrap64 (rd l0 1))))) : Int) := of_decide_eq_true kz9_4
             have q049 : (0 : Int) ≤ ((ji24) : Int) := of_decide_eq_true kz9_4
             have hcut49 := cut_mid (P := Try.prog) 50 5 .i64 .i64 Try.underlying50 hi049 1 hsz49 (some ad336) l0.length c0 (ji24) (wrap64 (6 + (Go.bits .or .i64 (wrap64 ((wrap64 (rd l0 0)) * 256)) (wrap64 (rd l0 1))))) q049 ql49 q49 hroom49
             have hr49 := Kd.C_mid (lo := ((ji24) : Int).toNat) (hi := ((wrap64 (6 + (Go.bits .or .i64 (wrap64 ((wrap64 (rd l0 0)) * 256)) (wrap64 (rd l0 1))))) : Int).toNat) (c := c0) hC49 (by omega) (by omega) hroom49
             obtain ⟨A49, hA49⟩ : ∃ A1, A1 = (if c0 = ((ji24) : Int).toNat then (some ad336) else ((some ad336) : Option Addr).map (·.add (((ji24) : Int).toNat * 1))) := ⟨_, rfl⟩
             obtain ⟨c49, hc49⟩ : ∃ c1, c1 = c0 - ((ji24) : Int).toNat := ⟨_, rfl⟩
             have hy49 : y358.length = ((wrap64 (6 + (Go.bits .or .i64 (wrap64 ((wrap64 (rd l0 0)) * 256)) (wrap64 (rd l0 1))))) : Int).toNat - ((ji24) : Int).toNat := (by rw [Ny358.out, List.length_drop, List.length_take] <;> omega)
             rw [show ((l0).take ((wrap64 (6 + (Go.bits .or .i64 (wrap64 ((wrap64 (rd l0 0)) * 256)) (wrap64 (rd l0 1))))) : Int).toNat).drop ((ji24) : Int).toNat = y358 from Ny358.out.symm] at hr49
             replace hr49 : Kd.C (Kd.int .u8) _ A49 y358.length y358 := (by rw [hA49]; exact hr49)
             rw [← hy49, ← hA49, ← hc49] at hcut49
             have HR361 := Aside0.mk hr49
             have HC361 := Aside0.mk (show y358.length ≤ c49 from by rw [hy49, hc49]; exact Nat.sub_le_sub_right (Nat.le_trans (by omega) hroom49) _)
             clear hr49 hC49 hroom49 hi049 hsz49 hc49
             have KY49 := Aside0.mk hy49
             have KA49 := Aside0.mk hA49
             clear hy49 hA49
             replace q49 := eq_true q49
             refine start_ (n := 15) (S := fun w' => True) (ds := []) #[false, false, false, false, false, false, false, false, false, false, false, false, false, false, false] (by kernel_rfl) rfl rfl trivial (fun hHeld => ?_); refine with_tabW tumbrelref01_Open.tab8 tumbrelref01_Open.bits8 (fun HT_ HW_ => ?_)
             generalize wc.drew = w47 at HB HR353 HR361 hHeld ⊢
             refine pure_ (i := 0) (N := some 41) (v := ?_) (a' := ?_) #[true, false, false, false, false, false, false, false, false, false, false, false, false, false, false] rfl rfl (any_of HT_.out (by kernel_rfl)) (fun _ _ _ h => h) (Or.inl ⟨by rfl, ?_⟩) ?_ ?_
             rotate_left
             ·intro w'
              go_simp
              with_reducible rfl
             rotate_left
             ·simp only [Act.put, sA_, sB_, sC_, i64_w, i32_w]
              rfl
             refine pure_ (i := 1) (N := some 42) (v := ?_) (a' := ?_) #[true, true, false, false, false, false, false, false, false, false, false, false, false, false, false] rfl rfl (any_of HT_.out (by kernel_rfl)) (fun _ _ _ h => h) (Or.inl ⟨by rfl, ?_⟩) ?_ ?_
             rotate_left
             ·intro w'
              go_simp
              with_reducible rfl
             rotate_left
             ·simp only [Act.put, sA_, sB_, sC_, i64_w, i32_w]
              rfl
             refine pure_ (i := 2) (N := some 43) (v := ?_) (a' := ?_) #[true, true, true, false, false, false, false, false, false, false, false, false, false, false, false] rfl rfl (any_of HT_.out (by kernel_rfl)) (fun _ _ _ h => h) (Or.inl ⟨by rfl, ?_⟩) ?_ ?_
             rotate_left
             ·intro w'
              go_simp
              with_reducible rfl
             rotate_left
             ·simp only [Act.put, sA_, sB_, sC_, i64_w, i32_w]
              rfl
             refine pure_ (i := 3) (N := some 44) (v := ?_) (a' := ?_) #[true, true, true, true, false, false, false, false, false, false, false, false, false, false, false] rfl rfl (any_of HT_.out (by kernel_rfl)) (fun _ _ _ h => h) (Or.inl ⟨by rfl, ?_⟩) ?_ ?_
             rotate_left
             ·intro w'
              go_simp
              with_reducible rfl
             rotate_left
             ·simp only [Act.put, sA_, sB_, sC_, i64_w, i32_w]
              rfl
             refine pure_ (i := 7) (N := some 48) (v := ?_) (a' := ?_) #[true, true, true, true, false, false, false, true, false, false, false, false, false, false, false] rfl rfl (any_of HT_.out (by kernel_rfl)) (fun _ _ _ h => h) (Or.inl ⟨by rfl, ?_⟩) ?_ ?_
             rotate_left
             ·intro w'
              go_simp
              with_reducible rfl
             rotate_left
             ·simp only [Act.put, sA_, sB_, sC_, i64_w, i32_w]
              rfl
             refine pure_ (i := 8) (N := some 49) (v := ?_) (a' := ?_) #[true, true, true, true, false, false, false, true, true, false, false, false, false, false, false] rfl rfl (any_of HT_.out (by kernel_rfl)) (fun _ _ _ h => h) (Or.inl ⟨by rfl, ?_⟩) ?_ ?_
             rotate_left
             ·intro w'
              go_simp
              with_reducible rfl
             rotate_left
             ·simp only [Act.put, sA_, sB_, sC_, i64_w, i32_w]
              rfl
             refine pure_ (i := 9) (N := some 50) (v := ?_) (a' := ?_) #[true, true, true, true, false, false, false, true, true, true, false, false, false, false, false] rfl rfl (any_of HT_.out (by kernel_rfl)) (fun _ _ _ h => h) (Or.inl ⟨by rfl, ?_⟩) ?_ ?_
             rotate_left
             ·intro w'
              go_simp
              with_reducible rfl
             rotate_left
             ·simp only [Act.put, sA_, sB_, sC_, i64_w, i32_w]
              rfl
             refine pure_ (i := 10) (N := some 51) (v := ?_) (a' := ?_) #[true, true, true, true, false, false, false, true, true, true, true, false, false, false, false] rfl rfl (any_of HT_.out (by kernel_rfl)) (fun _ _ _ h => h) (Or.inl ⟨by rfl, ?_⟩) ?_ ?_
             rotate_left
             ·intro w'
              go_simp
              with_reducible rfl
             rotate_left
             ·simp only [Act.put, sA_, sB_, sC_, i64_w, i32_w]
              rfl
             refine pure_ (i := 11) (N := some 52) (v := ?_) (a' := ?_) #[true, true, true, true, false, false, false, true, true, true, true, true, false, false, false] rfl rfl (any_of HT_.out (by kernel_rfl)) (fun _ _ _ h => h) (Or.inl ⟨by rfl, ?_⟩) ?_ ?_
             rotate_left
             ·intro w'
              go_simp
              with_reducible rfl
             rotate_left
             ·simp only [Act.put, sA_, sB_, sC_, i64_w, i32_w]
              rfl
             refine pure_ (i := 12) (N := some 53) (v := ?_) (a' := ?_) #[true, true, true, true, false, false, false, true, true, true, true, true, true, false, false] rfl rfl (any_of HT_.out (by kernel_rfl)) (fun _ _ _ h => h) (Or.inl ⟨by rfl, ?_⟩) ?_ ?_
             rotate_left
             ·intro w'
              go_simp
              with_reducible rfl
             rotate_left
             ·simp only [Act.put, sA_, sB_, sC_, i64_w, i32_w]
              rfl
             refine join_ (σ := Value) 1 #[true, true, true, true, true, true, true, true, true, true, true, true, true, true, false] (fun s_ => [(45, .int .u16 t354), (46, s_), (47, .string (strOfNums t355)), (54, .string (strOfNums y358))]) (fun s_ w' => (Kd.R (Kd.int .u8) 5 w' w.heap.size (fun _ => True) s_ t355) ∧ (Below w.heap.size w w')) ?_ ?_
             rotate_left
             ·intro hCont
              refine two_ (i := 4) (j := 13) (Ni := some 45) (Nj := some 54) #[true, true, true, true, true, false, false, true, true, true, true, true, true, false, false] #[true, true, true, true, false, false, false, true, true, true, true, true, true, true, false] rfl rfl rfl rfl (two_of HT_.out (by kernel_rfl)) (by decide) (by decide) (fun K hK => ?_) (fun K hK => ?_)
              ·skip
               refine goes_ Try.func74 (by kernel_rfl) rfl #[.slice (some ad336) y350.length c0] (by rfl) rfl rfl kz9_2 ?_
               with_reducible refine (tumbrelref01_Sum.calls kj4 _ _ y350 t354 _ ?side1 ?side2 A27.out).mono ?_
               (case side1 => repeat (first | exact (Kd.C_below HR353.out HB.out) | (with_reducible refine Kd.C_alloc ?_ _) | (with_reducible refine Kd.C_drewN ?_ _) | (with_reducible refine Kd.C_drew ?_)))
               (case side2 => exact HC353.out)
               rintro e w' ⟨rfl, ⟨nd, rfl⟩⟩
               refine ⟨_, rfl, ?_⟩
               refine hK.out _ _ trivial (fun hHeld => ?_)
               clear hK K
               refine norm_ (a' := ?_) ?_ ?_
               rotate_left
               ·show Act.put _ (some 45) _ = _
                simp only [Act.put, sA_, sB_, sC_, i64_w, i32_w]
                rfl
               refine two_ (i := 5) (j := 13) (Ni := some 46) (Nj := some 54) #[true, true, true, true, true, true, false, true, true, true, true, true, true, false, false] #[true, true, true, true, true, false, false, true, true, true, true, true, true, true, false] rfl rfl rfl rfl (two_of HT_.out (by kernel_rfl)) (by decide) (by decide) (fun K hK => ?_) (fun K hK => ?_)
               ·skip
                refine goes_ Try.func73 (by kernel_rfl) rfl #[.int .u16 t354] (by rfl) rfl rfl kz9_2 ?_
                with_reducible refine (tumbrelref01_two.calls t354 t355 _ A28.out).mono ?_
                rintro e w50 ⟨v356, rfl, ho0, hb⟩
                refine ⟨_, rfl, ?_⟩
                have n0_ := Aside0.mk (Kd.R_lower ho0 (below_size kz9_1))
                have n1_ := Aside0.mk (below_step kz9_1 hb)
                clear HB
                have HO357 := n0_
                have HB := n1_
                clear n0_ n1_
                (try clear hb)
                (try clear hb2)
                (try clear hk)
                (try clear hi)
                (try clear ho0)
                refine hK.out _ _ trivial (fun hHeld => ?_)
                clear hK K
                refine norm_ (a' := ?_) ?_ ?_
                rotate_left
                ·show Act.put _ (some 46) _ = _
                 simp only [Act.put, sA_, sB_, sC_, i64_w, i32_w]
                 rfl
                refine two_ (i := 6) (j := 13) (Ni := some 47) (Nj := some 54) #[true, true, true, true, true, true, true, true, true, true, true, true, true, false, false] #[true, true, true, true, true, true, false, true, true, true, true, true, true, true, false] rfl rfl rfl rfl (two_of HT_.out (by kernel_rfl)) (by decide) (by decide) (fun K hK => ?_) (fun K hK => ?_)
                ·skip
                 have hcv51 := own_string (P := Try.prog) Try.underlying50 Try.underlying5 Try.underlying9 (Kd.own_of_R HO357.out)
                 refine value_ (w1 := ?_) (v := ?_) (by rfl) rfl ?_ ?_
                 rotate_left 2
                 ·go_simp
                  constructor
                  ·rfl
                  ·rfl
                 clear hcv51
                 refine hK.out _ _ trivial (fun hHeld => ?_)
                 clear hK K
                 refine norm_ (a' := ?_) ?_ ?_
                 rotate_left
                 ·show Act.put _ (some 47) _ = _
                  simp only [Act.put, sA_, sB_, sC_, i64_w, i32_w]
                  rfl
                 refine one_ (i := 13) (N := some 54) #[true, true, true, true, true, true, true, true, true, true, true, true, true, true, false] rfl rfl (one_of HT_.out (by kernel_rfl)) (by decide) (fun K hK => ?_)
                 have hcv52 := Kd.C_string (P := Try.prog) (A := A49) (c := c49) Try.underlying50 Try.underlying5 Try.underlying9 (Kd.C_below HR361.out HB.out); have hcv52d := fun m_ => Kd.C_string (P := Try.prog) (A := A49) (c := c49) Try.underlying50 Try.underlying5 Try.underlying9 (Kd.C_drewN ((Kd.C_below HR361.out HB.out)) m_)
                 refine value_ (w1 := ?_) (v := ?_) (by rfl) rfl ?_ ?_
                 rotate_left 2
                 ·go_simp
                  constructor
                  ·rfl
                  ·rfl
                 clear hcv52 hcv52d
                 refine hK.out _ _ trivial (fun hHeld => ?_)
                 clear hK K
                 refine norm_ (a' := ?_) ?_ ?_
                 rotate_left
                 ·show Act.put _ (some 54) _ = _
                  simp only [Act.put, sA_, sB_, sC_, i64_w, i32_w]
                  rfl
                 exact norm_ kz9_5 (hCont (v356) _ ⟨kz9_3, kz9_1⟩)
                ·skip
                 have hcv51 := Kd.C_string (P := Try.prog) (A := A49) (c := c49) Try.underlying50 Try.underlying5 Try.underlying9 (Kd.C_below HR361.out HB.out); have hcv51d := fun m_ => Kd.C_string (P := Try.prog) (A := A49) (c := c49) Try.underlying50 Try.underlying5 Try.underlying9 (Kd.C_drewN ((Kd.C_below HR361.out HB.out)) m_)
                 refine value_ (w1 := ?_) (v := ?_) (by rfl) rfl ?_ ?_
                 rotate_left 2
                 ·go_simp
                  constructor
                  ·rfl
                  ·rfl
                 clear hcv51 hcv51d
                 refine hK.out _ _ trivial (fun hHeld => ?_)
                 clear hK K
                 refine norm_ (a' := ?_) ?_ ?_
                 rotate_left
                 ·show Act.put _ (some 54) _ = _
                  simp only [Act.put, sA_, sB_, sC_, i64_w, i32_w]
                  rfl
                 refine one_ (i := 6) (N := some 47) #[true, true, true, true, true, true, true, true, true, true, true, true, true, true, false] rfl rfl (one_of HT_.out (by kernel_rfl)) (by decide) (fun K hK => ?_)
                 have hcv52 := own_string (P := Try.prog) Try.underlying50 Try.underlying5 Try.underlying9 (Kd.own_of_R HO357.out)
                 refine value_ (w1 := ?_) (v := ?_) (by rfl) rfl ?_ ?_
                 rotate_left 2
                 ·go_simp
                  constructor
                  ·rfl
                  ·rfl
                 clear hcv52
                 refine hK.out _ _ trivial (fun hHeld => ?_)
                 clear hK K
                 refine norm_ (a' := ?_) ?_ ?_
                 rotate_left
                 ·show Act.put _ (some 47) _ = _
                  simp only [Act.put, sA_, sB_, sC_, i64_w, i32_w]
                  rfl
                 exact norm_ kz9_5 (hCont (v356) _ ⟨kz9_3, kz9_1⟩)
               ·skip
                have hcv50 := Kd.C_string (P := Try.prog) (A := A49) (c := c49) Try.underlying50 Try.underlying5 Try.underlying9 (Kd.C_below HR361.out HB.out); have hcv50d := fun m_ => Kd.C_string (P := Try.prog) (A := A49) (c := c49) Try.underlying50 Try.underlying5 Try.underlying9 (Kd.C_drewN ((Kd.C_below HR361.out HB.out)) m_)
                refine value_ (w1 := ?_) (v := ?_) (by rfl) rfl ?_ ?_
                rotate_left 2
                ·go_simp
                 constructor
                 ·rfl
                 ·rfl
                clear hcv50 hcv50d
                refine hK.out _ _ trivial (fun hHeld => ?_)
                clear hK K
                refine norm_ (a' := ?_) ?_ ?_
                rotate_left
                ·show Act.put _ (some 54) _ = _
                 simp only [Act.put, sA_, sB_, sC_, i64_w, i32_w]
                 rfl
                refine one_ (i := 5) (N := some 46) #[true, true, true, true, true, true, false, true, true, true, true, true, true, true, false] rfl rfl (one_of HT_.out (by kernel_rfl)) (by decide) (fun K hK => ?_)
                refine goes_ Try.func73 (by kernel_rfl) rfl #[.int .u16 t354] (by rfl) rfl rfl kz9_2 ?_
                with_reducible refine (tumbrelref01_two.calls t354 t355 _ A28.out).mono ?_
                rintro e w51 ⟨v356, rfl, ho0, hb⟩
                refine ⟨_, rfl, ?_⟩
                have n0_ := Aside0.mk (Kd.R_lower ho0 (below_size kz9_1))
                have n1_ := Aside0.mk (below_step kz9_1 hb)
                clear HB
                have HO357 := n0_
                have HB := n1_
                clear n0_ n1_
                (try clear hb)
                (try clear hb2)
                (try clear hk)
                (try clear hi)
                (try clear ho0)
                refine hK.out _ _ trivial (fun hHeld => ?_)
                clear hK K
                refine norm_ (a' := ?_) ?_ ?_
                rotate_left
                ·show Act.put _ (some 46) _ = _
                 simp only [Act.put, sA_, sB_, sC_, i64_w, i32_w]
                 rfl
                refine one_ (i := 6) (N := some 47) #[true, true, true, true, true, true, true, true, true, true, true, true, true, true, false] rfl rfl (one_of HT_.out (by kernel_rfl)) (by decide) (fun K hK => ?_)
                have hcv52 := own_string (P := Try.prog) Try.underlying50 Try.underlying5 Try.underlying9 (Kd.own_of_R HO357.out)
                refine value_ (w1 := ?_) (v := ?_) (by rfl) rfl ?_ ?_
                rotate_left 2
                ·go_simp
                 constructor
                 ·rfl
                 ·rfl
                clear hcv52
                refine hK.out _ _ trivial (fun hHeld => ?_)
                clear hK K
                refine norm_ (a' := ?_) ?_ ?_
                rotate_left
                ·show Act.put _ (some 47) _ = _
                 simp only [Act.put, sA_, sB_, sC_, i64_w, i32_w]
                 rfl
                exact norm_ kz9_5 (hCont (v356) _ ⟨kz9_3, kz9_1⟩)
              ·skip
               have hcv50 := Kd.C_string (P := Try.prog) (A := A49) (c := c49) Try.underlying50 Try.underlying5 Try.underlying9 (Kd.C_below HR361.out HB.out); have hcv50d := fun m_ => Kd.C_string (P := Try.prog) (A := A49) (c := c49) Try.underlying50 Try.underlying5 Try.underlying9 (Kd.C_drewN ((Kd.C_below HR361.out HB.out)) m_)
               refine value_ (w1 := ?_) (v := ?_) (by rfl) rfl ?_ ?_
               rotate_left 2
               ·go_simp
                constructor
                ·rfl
                ·rfl
               clear hcv50 hcv50d
               refine hK.out _ _ trivial (fun hHeld => ?_)
               clear hK K
               refine norm_ (a' := ?_) ?_ ?_
               rotate_left
               ·show Act.put _ (some 54) _ = _
                simp only [Act.put, sA_, sB_, sC_, i64_w, i32_w]
                rfl
               refine one_ (i := 4) (N := some 45) #[true, true, true, true, true, false, false, true, true, true, true, true, true, true, false] rfl rfl (one_of HT_.out (by kernel_rfl)) (by decide) (fun K hK => ?_)
               refine goes_ Try.func74 (by kernel_rfl) rfl #[.slice (some ad336) y350.length c0] (by rfl) rfl rfl kz9_2 ?_
               with_reducible refine (tumbrelref01_Sum.calls kj4 _ _ y350 t354 _ ?side1 ?side2 A27.out).mono ?_
               (case side1 => repeat (first | exact (Kd.C_below HR353.out HB.out) | (with_reducible refine Kd.C_alloc ?_ _) | (with_reducible refine Kd.C_drewN ?_ _) | (with_reducible refine Kd.C_drew ?_)))
               (case side2 => exact HC353.out)
               rintro e w' ⟨rfl, ⟨nd, rfl⟩⟩
               refine ⟨_, rfl, ?_⟩
               refine hK.out _ _ trivial (fun hHeld => ?_)
               clear hK K
               refine norm_ (a' := ?_) ?_ ?_
               rotate_left
               ·show Act.put _ (some 45) _ = _
                simp only [Act.put, sA_, sB_, sC_, i64_w, i32_w]
                rfl
               refine one_ (i := 5) (N := some 46) #[true, true, true, true, true, true, false, true, true, true, true, true, true, true, false] rfl rfl (one_of HT_.out (by kernel_rfl)) (by decide) (fun K hK => ?_)
               refine goes_ Try.func73 (by kernel_rfl) rfl #[.int .u16 t354] (by rfl) rfl rfl kz9_2 ?_
               with_reducible refine (tumbrelref01_two.calls t354 t355 _ A28.out).mono ?_
               rintro e w51 ⟨v356, rfl, ho0, hb⟩
               refine ⟨_, rfl, ?_⟩
               have n0_ := Aside0.mk (Kd.R_lower ho0 (below_size kz9_1))
               have n1_ := Aside0.mk (below_step kz9_1 hb)
               clear HB
               have HO357 := n0_
               have HB := n1_
               clear n0_ n1_
               (try clear hb)
               (try clear hb2)
               (try clear hk)
               (try clear hi)
               (try clear ho0)
               refine hK.out _ _ trivial (fun hHeld => ?_)
               clear hK K
               refine norm_ (a' := ?_) ?_ ?_
               rotate_left
               ·show Act.put _ (some 46) _ = _
                simp only [Act.put, sA_, sB_, sC_, i64_w, i32_w]
                rfl
               refine one_ (i := 6) (N := some 47) #[true, true, true, true, true, true, true, true, true, true, true, true, true, true, false] rfl rfl (one_of HT_.out (by kernel_rfl)) (by decide) (fun K hK => ?_)
               have hcv52 := own_string (P := Try.prog) Try.underlying50 Try.underlying5 Try.underlying9 (Kd.own_of_R HO357.out)
               refine value_ (w1 := ?_) (v := ?_) (by rfl) rfl ?_ ?_
               rotate_left 2
               ·go_simp
                constructor
                ·rfl
                ·rfl
               clear hcv52
               refine hK.out _ _ trivial (fun hHeld => ?_)
               clear hK K
               refine norm_ (a' := ?_) ?_ ?_
               rotate_left
               ·show Act.put _ (some 47) _ = _
                simp only [Act.put, sA_, sB_, sC_, i64_w, i32_w]
                rfl
               exact norm_ kz9_5 (hCont (v356) _ ⟨kz9_3, kz9_1⟩)
             rintro v356 w53 ⟨h0_, h1_⟩
             have n0_ : Aside0 (Kd.R (Kd.int .u8) 5 w53 w.heap.size (fun _ => True) v356 t355) := ⟨h0_⟩
             have n1_ : Aside0 (Below w.heap.size w w53) := ⟨h1_⟩
             clear HB
             clear h0_ h1_
             have HO357 := n0_
             have HB := n1_
             clear n0_ n1_
             have hHeld := trivial
             refine norm_ (a' := ?_) ?_ ?_
             rotate_left
             ·simp only [putAll, Act.put, sA_, sB_, sC_]
              rfl
             refine pure_ (i := 14) (N := some 55) (v := ?_) (a' := ?_) #[true, true, true, true, true, true, true, true, true, true, true, true, true, true, true] rfl rfl (any_of HT_.out (by kernel_rfl)) (fun _ _ _ h => h) (Or.inl ⟨by rfl, ?_⟩) ?_ ?_
             rotate_left
             ·intro w'
              go_simp
              with_reducible rfl
             rotate_left
             ·simp only [Act.put, sA_, sB_, sC_, i64_w, i32_w]
              rfl
             refine done_ (done_of HT_.out (by kernel_rfl)) ?_
             try go_wp2
             go_ret3
             exact ⟨_, by first | rfl | (simp [errW_none, errW_some] <;> rfl) | (simp only [← hji24]; first | rfl | (simp [errW_none, errW_some] <;> rfl)) | (simp [*, errW_none, errW_some] <;> rfl), by first | exact Kd.R_nil _ _ _ _ _ | exact Kd.N_nil _ _ _ _ _ | exact Kd.V_nil _ _ _ _ _ | exact Kd.Q_nil _ _ _ _ _ | exact Kd.S_nil _ _ _ _ _, by repeat (first | (with_reducible first | exact HB.out | apply below_alloc | apply pw_below_drewN | apply below_drew1) | exact HB.out)⟩
           ·rw [if_neg c31] at H
            exact absurd H (by simp)
          ·rw [if_neg c30] at H
           exact absurd H (by simp)
         ·rw [if_neg c26] at H
          exact absurd H (by simp)
        ·rw [if_neg c25] at H
         exact absurd H (by simp)
   ·rw [if_neg c4] at H
    exact absurd H (by simp)
  ·rw [if_neg c3] at H
   exact absurd H (by simp)

end Go.Proofs.Ytdglbiafpofeeaa.POutboxDecodes
