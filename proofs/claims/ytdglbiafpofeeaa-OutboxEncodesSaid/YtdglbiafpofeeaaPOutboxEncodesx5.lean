-- Written by fprint.py (wip), by way of the printer's functions; where they are turned, by texts of mine.
import Derived.Test.YtdglbiafpofeeaaPOutboxEncodesx0
import Derived.Test.YtdglbiafpofeeaaPOutboxEncodesx4
namespace Go.Proofs.Ytdglbiafpofeeaa.POutboxEncodes
open Go.RowKit Go.Proofs.YtdglbiafpofeeaaW.PrintWords Go.Proofs.YtdglbiafpofeeaaW.PrintLast Go.Proofs.YtdglbiafpofeeaaW.PrintMore
attribute [local go_sem] max2_int min2_int max_two min_two max_three min_three max_four min_four   -- for this text's walks alone
set_option linter.unusedVariables false
set_option linter.unusedSimpArgs false
theorem kz5_1 {p_ : Prop} (h_ : p_ := by repeat (first | (with_reducible first | exact HB.out | apply below_alloc | apply pw_below_drewN | apply below_drew1) | exact HB.out)) : p_ := h_
theorem kz5_2 {p_ : Prop} (h_ : p_ := by first | (with_reducible assumption) | assumption) : p_ := h_
theorem kz5_3 {p_ : Prop} (h_ : p_ := by (try simp only [List.map_toArray, List.map_cons, List.map_nil]); first | done | rfl | (simp only [List.length_drop, List.length_take]; rfl)) : p_ := h_
theorem kz5_4 {p_ : Prop} (h_ : p_ := by first | rfl | (simp; done) | (simp [*]; done)) : p_ := h_

/-! ### tumbrelref01_Text: function 72 -/
def tumbrelref01_Text.f (k : Nat) (a0 : ByteArray) : Option (List Int) := (tumbrelref01_Number.f k (a0.size : Int)).bind fun t224 => (if t224.length + a0.size < 140737488355328 then (some (t224 ++ bytesOf a0)) else (none))
theorem tumbrelref01_Text.mono : ∀ a0 k, LeO (tumbrelref01_Text.f k a0) (tumbrelref01_Text.f (k + 1) a0) := by
 intro a0 k
 unfold tumbrelref01_Text.f
 repeat' first
   | (with_reducible exact tumbrelref01_Number.mono _ _)
   | (with_reducible exact LeO.refl _)
   | (with_reducible exact LeO.none _)
   | (with_reducible refine LeO.ite ?_ ?_)
   | (with_reducible refine LeO.bind ?_ (fun _ => ?_))
   | exact tumbrelref01_Number.mono _ _
   | exact LeO.none _
   | refine LeO.ite ?_ ?_
   | refine LeO.bind ?_ (fun _ => ?_)
set_option maxHeartbeats 8000000 in
set_option maxRecDepth 100000 in
theorem tumbrelref01_Text.calls (k : Nat) (a0 : ByteArray) (r : List Int) (w : World) (h : tumbrelref01_Text.f k a0 = some r) :
  Calls Try.prog 72 #[.string a0] w fun e w' => ∃ v0_ : Value, e = .returned (v0_) ∧ Kd.R (Kd.int .u8) 5 w' w.heap.size (fun _ => True) v0_ r ∧ Below w.heap.size w w' := by
 have HB := Aside0.mk (Below.refl w.heap.size w)
 have H : ((tumbrelref01_Number.f k (a0.size : Int)).bind fun t224 => (if t224.length + a0.size < 140737488355328 then (some (t224 ++ bytesOf a0)) else (none))) = some r := h
 clear h
 replace H := Option.bind_eq_some_iff.mp H
 obtain ⟨t224, A20, H⟩ := H
 replace H : (if t224.length + a0.size < 140737488355328 then (some (t224 ++ bytesOf a0)) else (none)) = some r := H
 have A2 := Aside0.mk A20
 clear A20
 by_cases c3 : t224.length + a0.size < 140737488355328
 ·rw [if_pos c3] at H
  have LMc3 := Aside0.mk c3
  clear c3
  obtain ⟨y227, hy227⟩ : ∃ y_ : List Int, y_ = (t224 ++ bytesOf a0) := ⟨_, rfl⟩
  replace H : (some y227) = some r := by first | (rw [hy227]; with_reducible exact H) | (have H2_ := (Option.bind_some _ _).symm.trans H; rw [hy227]; with_reducible exact H2_) | (have H2_ := (Option.bind_some _ _).symm.trans H; with_reducible exact H2_) | with_reducible exact H | (rw [hy227]; exact H) | exact H
  have Ny227 := Aside0.mk hy227
  clear hy227
  obtain rfl := Option.some.inj H
  go_enter Try.func72, Try.ntmps72
  go_wp2_with (first | ((with_reducible refine gate_callee (f := 71) rfl ?_); refine goesL_ (some 5) rfl rfl Try.func71 (by kernel_rfl) rfl #[.int .i64 (a0.size : Int)] rfl kz5_3 ?_; (with_reducible refine (tumbrelref01_Number.calls k (a0.size : Int) t224 _ A2.out).mono ?_); rintro e w4 ⟨v225, rfl, ho0, hb⟩; refine ⟨_, rfl, ?_⟩; have n0_ := Aside0.mk (Kd.R_lower ho0 (below_size kz5_1)); have n1_ := Aside0.mk (below_step kz5_1 hb); clear HB; have HO226 := n0_; have HB := n1_; clear n0_ n1_; (try clear hb); (try clear hb2); (try clear hk); (try clear hi); (try clear ho0)) | (at_builtin; refine print_append_str (w0 := w) w.heap.size rfl (.tmp 5) _ 50 9 5 rfl Try.underlying50 Try.underlying9 info5 v225 t224 a0 rfl rfl ?aO ?aB ?aS ?aL ?_; (case aB => exact kz5_1); (case aO => exact (Kd.own_of_R (by (with_reducible repeat (first | apply Kd.R_alloc | apply Kd.R_drewN | apply Kd.R_drew)); exact HO226.out))); (case aS => exact (below_size kz5_1)); (case aL => have := LMc3.out; omega); intro v228 w5 ho0 hb hg; have ho := Kd.R_of_own (h1 := fun _ => rfl) (ok := fun _ => True) ho0 (fun _ _ => trivial); clear ho0; have hat := True.intro; rw [← Ny227.out] at ho; change Kd.R (Kd.int .u8) 5 w5 w.heap.size (fun _ => True) v228 y227 at ho; have n0_ := Aside0.mk (hb); have n1_ := Aside0.mk (ho); clear HB; clear HO226; have HB := n0_; have HO229 := n1_; clear n0_ n1_; clear ho hb hg hat))
  go_ret
  exact ⟨_, by first | rfl | (simp [errW_none, errW_some] <;> rfl) | (simp [*, errW_none, errW_some] <;> rfl), by (with_reducible repeat (first | apply Kd.R_alloc | apply Kd.R_drewN | apply Kd.R_drew)); exact HO229.out, by repeat (first | (with_reducible first | exact HB.out | apply below_alloc | apply pw_below_drewN | apply below_drew1) | exact HB.out)⟩
 ·rw [if_neg c3] at H
  exact absurd H (by simp)

/-! ### tumbrelref01_Items: function 56 -/
mutual
def tumbrelref01_Items.l0 : Nat → List (S117) → Int → Int → Option (List Int × Int)
 | 0, _, _, _ => none
 | k + 1, x0, x8, x9 => if x9 < x8 then (if 0 ≤ x9 then (if x9 < (x0.length : Int) then (if (rd_T117 x0 x9).f0 = true then (if ((rd_T117 x0 x9).f1) = 0 then (tumbrelref01_Items.l0 k x0 x8 (wrap64 (x9 + 1))) else (some (([] : List Int), 1))) else (if ((rd_T117 x0 x9).f2).toList = ([] : List UInt8) then (tumbrelref01_Items.l0 k x0 x8 (wrap64 (x9 + 1))) else (some (([] : List Int), 1)))) else (none)) else (none)) else (if (x0.length : Int) > 4000 then (some (([] : List Int), 4)) else ((tumbrelref01_Number.f k (x0.length : Int)).bind fun t235 => (tumbrelref01_Items.l1 k x0 t235 (x0.length : Int) 0)))
def tumbrelref01_Items.l1 : Nat → List (S117) → List Int → Int → Int → Option (List Int × Int)
 | 0, _, _, _, _ => none
 | k + 1, x0, x5, x49, x50 => if x50 < x49 then (if 0 ≤ x50 then (if x50 < (x0.length : Int) then (if (rd_T117 x0 x50).f0 = true then (if x5.length < 140737488355328 then ((some (x5 ++ [2] : List Int)).bind fun y239 => ((tumbrelref01_Text.f k ((rd_T117 x0 x50).f2)).bind fun t243 => (if y239.length + t243.length < 140737488355328 then (tumbrelref01_Items.l1 k x0 (y239 ++ t243) x49 (wrap64 (x50 + 1))) else (none)))) else (none)) else (if x5.length < 140737488355328 then ((some (x5 ++ [1] : List Int)).bind fun y249 => ((tumbrelref01_Number.f k ((rd_T117 x0 x50).f1)).bind fun t253 => (if y249.length + t253.length < 140737488355328 then (tumbrelref01_Items.l1 k x0 (y249 ++ t253) x49 (wrap64 (x50 + 1))) else (none)))) else (none))) else (none)) else (none)) else (some (x5, 0))
end
def tumbrelref01_Items.f (k : Nat) (l0 : List (S117)) : Option (List Int × Int) := tumbrelref01_Items.l0 k l0 (l0.length : Int) 0
theorem tumbrelref01_Items.mono_l : ∀ k, (∀ y0 y1 y2, LeO (tumbrelref01_Items.l0 k y0 y1 y2) (tumbrelref01_Items.l0 (k + 1) y0 y1 y2)) ∧ (∀ y0 y1 y2 y3, LeO (tumbrelref01_Items.l1 k y0 y1 y2 y3) (tumbrelref01_Items.l1 (k + 1) y0 y1 y2 y3))
 | 0 => ⟨fun _ _ _ r h => by simp [tumbrelref01_Items.l0] at h, fun _ _ _ _ r h => by simp [tumbrelref01_Items.l1] at h⟩
 | k + 1 => by
  obtain ⟨ih0, ih1⟩ := tumbrelref01_Items.mono_l k
  refine ⟨?_, ?_⟩
  ·intro y0 y1 y2
   unfold tumbrelref01_Items.l0
   repeat' first
   | (with_reducible exact ih0 _ _ _)
   | (with_reducible exact ih1 _ _ _ _)
   | (with_reducible exact tumbrelref01_Number.mono _ _)
   | (with_reducible exact tumbrelref01_Text.mono _ _)
   | (with_reducible exact LeO.refl _)
   | (with_reducible exact LeO.none _)
   | (with_reducible refine LeO.ite ?_ ?_)
   | (with_reducible refine LeO.bind ?_ (fun _ => ?_))
   | exact ih0 _ _ _
   | exact ih1 _ _ _ _
   | exact tumbrelref01_Number.mono _ _
   | exact tumbrelref01_Text.mono _ _
   | exact LeO.none _
   | refine LeO.ite ?_ ?_
   | refine LeO.bind ?_ (fun _ => ?_)
  ·intro y0 y1 y2 y3
   unfold tumbrelref01_Items.l1
   repeat' first
   | (with_reducible exact ih0 _ _ _)
   | (with_reducible exact ih1 _ _ _ _)
   | (with_reducible exact tumbrelref01_Number.mono _ _)
   | (with_reducible exact tumbrelref01_Text.mono _ _)
   | (with_reducible exact LeO.refl _)
   | (with_reducible exact LeO.none _)
   | (with_reducible refine LeO.ite ?_ ?_)
   | (with_reducible refine LeO.bind ?_ (fun _ => ?_))
   | exact ih0 _ _ _
   | exact ih1 _ _ _ _
   | exact tumbrelref01_Number.mono _ _
   | exact tumbrelref01_Text.mono _ _
   | exact LeO.none _
   | refine LeO.ite ?_ ?_
   | refine LeO.bind ?_ (fun _ => ?_)
theorem tumbrelref01_Items.mono : ∀ a0 k, LeO (tumbrelref01_Items.f k a0) (tumbrelref01_Items.f (k + 1) a0) := by
 intro a0 k
 obtain ⟨ih0, ih1⟩ := tumbrelref01_Items.mono_l k
 unfold tumbrelref01_Items.f
 repeat' first
   | (with_reducible exact ih0 _ _ _)
   | (with_reducible exact ih1 _ _ _ _)
   | (with_reducible exact tumbrelref01_Number.mono _ _)
   | (with_reducible exact tumbrelref01_Text.mono _ _)
   | (with_reducible exact LeO.refl _)
   | (with_reducible exact LeO.none _)
   | (with_reducible refine LeO.ite ?_ ?_)
   | (with_reducible refine LeO.bind ?_ (fun _ => ?_))
   | exact ih0 _ _ _
   | exact ih1 _ _ _ _
   | exact tumbrelref01_Number.mono _ _
   | exact tumbrelref01_Text.mono _ _
   | exact LeO.none _
   | refine LeO.ite ?_ ?_
   | refine LeO.bind ?_ (fun _ => ?_)
def tumbrelref01_Items.T14 : Bool × List (List Nat × List Nat) := (true, [([], []), ([], []), ([0, 1], [0, 1]), ([], []), ([], []), ([3, 4], [3, 4]), ([5], [5]), ([6], [6]), ([7, 2], [7]), ([2, 8, 8], [2, 8]), ([9, 9, 0, 1, 2, 3, 4, 5, 6, 7, 8, 9], [0, 9])])
def tumbrelref01_Items.B14 : List Nat := [0, 0, 3, 0, 0, 24, 56, 120, 255, 511, 1023]
theorem tumbrelref01_Items.tab14 : rtab .any (opsOf Try.f56 14) = tumbrelref01_Items.T14 := by kernel_rfl
theorem tumbrelref01_Items.bits14 : waitsOk tumbrelref01_Items.T14.2 tumbrelref01_Items.B14 = true := by kernel_rfl
def tumbrelref01_Items.T15 : Bool × List (List Nat × List Nat) := (true, [([], []), ([], []), ([0, 1], [0, 1]), ([], []), ([], []), ([3, 4], [3, 4]), ([5], [5]), ([6], [6]), ([7, 2], [7]), ([2, 8, 8], [2, 8]), ([9, 9, 0, 1, 2, 3, 4, 5, 6, 7, 8, 9], [0, 9])])
def tumbrelref01_Items.B15 : List Nat := [0, 0, 3, 0, 0, 24, 56, 120, 255, 511, 1023]
theorem tumbrelref01_Items.tab15 : rtab .any (opsOf Try.f56 15) = tumbrelref01_Items.T15 := by kernel_rfl
theorem tumbrelref01_Items.bits15 : waitsOk tumbrelref01_Items.T15.2 tumbrelref01_Items.B15 = true := by kernel_rfl
set_option maxHeartbeats 8000000 in
set_option maxRecDepth 100000 in
theorem tumbrelref01_Items.calls (k : Nat) (A0 : Option Addr) (c0 : Nat) (l0 : List (S117)) (r1 : List Int) (r2 : Int) (w : World) (hr0 : Kd.C k117 w A0 l0.length l0) (hc0 : l0.length ≤ c0) (h : tumbrelref01_Items.f k l0 = some (r1, r2)) :
  Calls Try.prog 56 #[.slice A0 l0.length c0] w fun e w' => ∃ v0_ : Value, e = .returned (.tuple #[v0_, .int .i64 r2]) ∧ Kd.R (Kd.int .u8) 5 w' w.heap.size (fun _ => True) v0_ r1 ∧ Below w.heap.size w w' := by
 have HR0 := Aside0.mk hr0
 have HC0 := Aside0.mk hc0
 clear hr0 hc0
 have HB := Aside0.mk (Below.refl w.heap.size w)
 have H : (tumbrelref01_Items.l0 k l0 (l0.length : Int) 0) = some (r1, r2) := h
 clear h
 have H' := Aside0.mk H
 clear H
 go_enter Try.func56, Try.ntmps56
 go_wp2
 go_loopg [9] k (fun kq v9 w' => ∃ (x9_1 : Int), v9 = .int .i64 x9_1 ∧ Aside0 (tumbrelref01_Items.l0 kq l0 (l0.length : Int) x9_1 = some (r1, r2)) ∧ Aside0 (kq ≤ k) ∧ Aside0 (Below w.heap.size w w'))
 case atStart => exact ⟨(0), kz5_4, H', ⟨Nat.le_refl _⟩, ⟨by repeat (first | (with_reducible first | exact HB.out | apply below_alloc | apply pw_below_drewN | apply below_drew1) | exact HB.out)⟩⟩
 case round =>
  clear H'
  obtain ⟨x9_1, rfl, HA, HK1, HB⟩ := hrel
  cases gk with
  | zero => exact absurd HA.out (by simp [tumbrelref01_Items.l0])
  | succ k1 =>
   have H := HA.out
   clear HA
   simp only [tumbrelref01_Items.l0] at H
   by_cases c2 : x9_1 < (l0.length : Int)
   ·rw [if_pos c2] at H
    have c2b0 : decide (x9_1 < (l0.length : Int)) = true := decide_eq_true c2
    clear c2
    by_cases c3 : 0 ≤ x9_1
    ·rw [if_pos c3] at H
     have c3b0 : decide (0 ≤ x9_1) = true := decide_eq_true c3
     clear c3
     by_cases c4 : x9_1 < (l0.length : Int)
     ·rw [if_pos c4] at H
      have c4b0 : decide (x9_1 < (l0.length : Int)) = true := decide_eq_true c4
      clear c4
      obtain ⟨bq5, hbq5⟩ : ∃ b_ : Bool, b_ = ((rd_T117 l0 x9_1).f0) := ⟨_, rfl⟩
      replace H : (if bq5 = true then (if ((rd_T117 l0 x9_1).f1) = 0 then (tumbrelref01_Items.l0 k1 l0 (l0.length : Int) (wrap64 (x9_1 + 1))) else (some (([] : List Int), 1))) else (if ((rd_T117 l0 x9_1).f2).toList = ([] : List UInt8) then (tumbrelref01_Items.l0 k1 l0 (l0.length : Int) (wrap64 (x9_1 + 1))) else (some (([] : List Int), 1)))) = some (r1, r2) := by rw [← hbq5] at H; exact H
      have Nbq5 := Aside0.mk hbq5
      clear hbq5
      by_cases c6 : bq5 = true
      ·subst c6
       have H1 : (if ((rd_T117 l0 x9_1).f1) = 0 then (tumbrelref01_Items.l0 k1 l0 (l0.length : Int) (wrap64 (x9_1 + 1))) else (some (([] : List Int), 1))) = some (r1, r2) := by rw [if_pos rfl] at H; exact H
       clear H
       have H := H1
       clear H1
       by_cases c7 : ((rd_T117 l0 x9_1).f1) = 0
       ·rw [if_pos c7] at H
        have c7b0 : (((rd_T117 l0 x9_1).f1) == 0) = true := beq_iff_eq.mpr c7
        have c7b1 : (((rd_T117 l0 x9_1).f1) != 0) = false := bne_eq_false_iff_eq.mpr c7
        clear c7
        have H' := Aside0.mk H
        clear H
        have p230 : 0 ≤ (x9_1 : Int) := of_decide_eq_true kz5_2
        have q230 : x9_1 < (l0.length : Int) := of_decide_eq_true kz5_2
        obtain ⟨ad230, e230, hx230_0, hx230_1, hx230_2⟩ := at_T117 HR0.out x9_1 p230 q230
        (try rw [← Nbq5.out] at hx230_0)
        cases e230
        replace hx230_0 := (HB.out.cell (World.block_lt_of_cell? w _ hx230_0)).trans hx230_0
        replace hx230_1 := (HB.out.cell (World.block_lt_of_cell? w _ hx230_1)).trans hx230_1
        replace hx230_2 := (HB.out.cell (World.block_lt_of_cell? w _ hx230_2)).trans hx230_2
        replace p230 := eq_true p230
        replace q230 := eq_true q230
        have p231 : 0 ≤ (x9_1 : Int) := of_decide_eq_true kz5_2
        have q231 : x9_1 < (l0.length : Int) := of_decide_eq_true kz5_2
        obtain ⟨ad231, e231, hx231_0, hx231_1, hx231_2⟩ := at_T117 HR0.out x9_1 p231 q231
        (try rw [← Nbq5.out] at hx231_0)
        obtain rfl : ad230 = ad231 := (by injection e231)
        replace hx231_0 := (HB.out.cell (World.block_lt_of_cell? w _ hx231_0)).trans hx231_0
        replace hx231_1 := (HB.out.cell (World.block_lt_of_cell? w _ hx231_1)).trans hx231_1
        replace hx231_2 := (HB.out.cell (World.block_lt_of_cell? w _ hx231_2)).trans hx231_2
        replace p231 := eq_true p231
        replace q231 := eq_true q231
        have p232 : 0 ≤ (x9_1 : Int) := of_decide_eq_true kz5_2
        have q232 : x9_1 < (l0.length : Int) := of_decide_eq_true kz5_2
        obtain ⟨ad232, e232, hx232_0, hx232_1, hx232_2⟩ := at_T117 HR0.out x9_1 p232 q232
        (try rw [← Nbq5.out] at hx232_0)
        obtain rfl : ad230 = ad232 := (by injection e232)
        replace hx232_0 := (HB.out.cell (World.block_lt_of_cell? w _ hx232_0)).trans hx232_0
        replace hx232_1 := (HB.out.cell (World.block_lt_of_cell? w _ hx232_1)).trans hx232_1
        replace hx232_2 := (HB.out.cell (World.block_lt_of_cell? w _ hx232_2)).trans hx232_2
        replace p232 := eq_true p232
        replace q232 := eq_true q232
        go_wp2
        go_roundg k1
        case measure => have := HK1.out; omega
        case rel => exact ⟨(wrap64 (x9_1 + 1)), kz5_4, H', ⟨by have := HK1.out; omega⟩, ⟨by repeat (first | (with_reducible first | exact HB.out | apply below_alloc | apply pw_below_drewN | apply below_drew1) | exact HB.out)⟩⟩
       ·rw [if_neg c7] at H
        have c7b0 : (((rd_T117 l0 x9_1).f1) == 0) = false := beq_eq_false_iff_ne.mpr c7
        have c7b1 : (((rd_T117 l0 x9_1).f1) != 0) = true := bne_iff_ne.mpr c7
        simp only [Option.some.injEq, Prod.mk.injEq] at H
        obtain ⟨rfl, rfl⟩ := H
        have p230 : 0 ≤ (x9_1 : Int) := of_decide_eq_true kz5_2
        have q230 : x9_1 < (l0.length : Int) := of_decide_eq_true kz5_2
        obtain ⟨ad230, e230, hx230_0, hx230_1, hx230_2⟩ := at_T117 HR0.out x9_1 p230 q230
        (try rw [← Nbq5.out] at hx230_0)
        cases e230
        replace hx230_0 := (HB.out.cell (World.block_lt_of_cell? w _ hx230_0)).trans hx230_0
        replace hx230_1 := (HB.out.cell (World.block_lt_of_cell? w _ hx230_1)).trans hx230_1
        replace hx230_2 := (HB.out.cell (World.block_lt_of_cell? w _ hx230_2)).trans hx230_2
        replace p230 := eq_true p230
        replace q230 := eq_true q230
        have p231 : 0 ≤ (x9_1 : Int) := of_decide_eq_true kz5_2
        have q231 : x9_1 < (l0.length : Int) := of_decide_eq_true kz5_2
        obtain ⟨ad231, e231, hx231_0, hx231_1, hx231_2⟩ := at_T117 HR0.out x9_1 p231 q231
        (try rw [← Nbq5.out] at hx231_0)
        obtain rfl : ad230 = ad231 := (by injection e231)
        replace hx231_0 := (HB.out.cell (World.block_lt_of_cell? w _ hx231_0)).trans hx231_0
        replace hx231_1 := (HB.out.cell (World.block_lt_of_cell? w _ hx231_1)).trans hx231_1
        replace hx231_2 := (HB.out.cell (World.block_lt_of_cell? w _ hx231_2)).trans hx231_2
        replace p231 := eq_true p231
        replace q231 := eq_true q231
        go_wp2
        go_ret2
        exact ⟨_, by first | rfl | (simp [errW_none, errW_some] <;> rfl) | (simp [*, errW_none, errW_some] <;> rfl), by first | exact Kd.R_nil _ _ _ _ _ | exact Kd.N_nil _ _ _ _ _ | exact Kd.V_nil _ _ _ _ _ | exact Kd.Q_nil _ _ _ _ _ | exact Kd.S_nil _ _ _ _ _, by repeat (first | (with_reducible first | exact HB.out | apply below_alloc | apply pw_below_drewN | apply below_drew1) | exact HB.out)⟩
      ·replace c6 := Bool.eq_false_iff.mpr c6
       subst c6
       have H1 : (if ((rd_T117 l0 x9_1).f2).toList = ([] : List UInt8) then (tumbrelref01_Items.l0 k1 l0 (l0.length : Int) (wrap64 (x9_1 + 1))) else (some (([] : List Int), 1))) = some (r1, r2) := by rw [if_neg (show ¬ (false = true) by decide)] at H; exact H
       clear H
       have H := H1
       clear H1
       by_cases c8 : ((rd_T117 l0 x9_1).f2).toList = ([] : List UInt8)
       ·rw [if_pos c8] at H
        have c8b0 : (((rd_T117 l0 x9_1).f2).toList == ([] : List UInt8)) = true := beq_iff_eq.mpr c8
        have c8b1 : (((rd_T117 l0 x9_1).f2).toList != ([] : List UInt8)) = false := bne_eq_false_iff_eq.mpr c8
        clear c8
        have H' := Aside0.mk H
        clear H
        have p230 : 0 ≤ (x9_1 : Int) := of_decide_eq_true kz5_2
        have q230 : x9_1 < (l0.length : Int) := of_decide_eq_true kz5_2
        obtain ⟨ad230, e230, hx230_0, hx230_1, hx230_2⟩ := at_T117 HR0.out x9_1 p230 q230
        (try rw [← Nbq5.out] at hx230_0)
        cases e230
        replace hx230_0 := (HB.out.cell (World.block_lt_of_cell? w _ hx230_0)).trans hx230_0
        replace hx230_1 := (HB.out.cell (World.block_lt_of_cell? w _ hx230_1)).trans hx230_1
        replace hx230_2 := (HB.out.cell (World.block_lt_of_cell? w _ hx230_2)).trans hx230_2
        replace p230 := eq_true p230
        replace q230 := eq_true q230
        have p233 : 0 ≤ (x9_1 : Int) := of_decide_eq_true kz5_2
        have q233 : x9_1 < (l0.length : Int) := of_decide_eq_true kz5_2
        obtain ⟨ad233, e233, hx233_0, hx233_1, hx233_2⟩ := at_T117 HR0.out x9_1 p233 q233
        (try rw [← Nbq5.out] at hx233_0)
        obtain rfl : ad230 = ad233 := (by injection e233)
        replace hx233_0 := (HB.out.cell (World.block_lt_of_cell? w _ hx233_0)).trans hx233_0
        replace hx233_1 := (HB.out.cell (World.block_lt_of_cell? w _ hx233_1)).trans hx233_1
        replace hx233_2 := (HB.out.cell (World.block_lt_of_cell? w _ hx233_2)).trans hx233_2
        replace p233 := eq_true p233
        replace q233 := eq_true q233
        have p234 : 0 ≤ (x9_1 : Int) := of_decide_eq_true kz5_2
        have q234 : x9_1 < (l0.length : Int) := of_decide_eq_true kz5_2
        obtain ⟨ad234, e234, hx234_0, hx234_1, hx234_2⟩ := at_T117 HR0.out x9_1 p234 q234
        (try rw [← Nbq5.out] at hx234_0)
        obtain rfl : ad230 = ad234 := (by injection e234)
        replace hx234_0 := (HB.out.cell (World.block_lt_of_cell? w _ hx234_0)).trans hx234_0
        replace hx234_1 := (HB.out.cell (World.block_lt_of_cell? w _ hx234_1)).trans hx234_1
        replace hx234_2 := (HB.out.cell (World.block_lt_of_cell? w _ hx234_2)).trans hx234_2
        replace p234 := eq_true p234
        replace q234 := eq_true q234
        go_wp2
        go_roundg k1
        case measure => have := HK1.out; omega
        case rel => exact ⟨(wrap64 (x9_1 + 1)), kz5_4, H', ⟨by have := HK1.out; omega⟩, ⟨by repeat (first | (with_reducible first | exact HB.out | apply below_alloc | apply pw_below_drewN | apply below_drew1) | exact HB.out)⟩⟩
       ·rw [if_neg c8] at H
        have c8b0 : (((rd_T117 l0 x9_1).f2).toList == ([] : List UInt8)) = false := beq_eq_false_iff_ne.mpr c8
        have c8b1 : (((rd_T117 l0 x9_1).f2).toList != ([] : List UInt8)) = true := bne_iff_ne.mpr c8
        simp only [Option.some.injEq, Prod.mk.injEq] at H
        obtain ⟨rfl, rfl⟩ := H
        have p230 : 0 ≤ (x9_1 : Int) := of_decide_eq_true kz5_2
        have q230 : x9_1 < (l0.length : Int) := of_decide_eq_true kz5_2
        obtain ⟨ad230, e230, hx230_0, hx230_1, hx230_2⟩ := at_T117 HR0.out x9_1 p230 q230
        (try rw [← Nbq5.out] at hx230_0)
        cases e230
        replace hx230_0 := (HB.out.cell (World.block_lt_of_cell? w _ hx230_0)).trans hx230_0
        replace hx230_1 := (HB.out.cell (World.block_lt_of_cell? w _ hx230_1)).trans hx230_1
        replace hx230_2 := (HB.out.cell (World.block_lt_of_cell? w _ hx230_2)).trans hx230_2
        replace p230 := eq_true p230
        replace q230 := eq_true q230
        have p233 : 0 ≤ (x9_1 : Int) := of_decide_eq_true kz5_2
        have q233 : x9_1 < (l0.length : Int) := of_decide_eq_true kz5_2
        obtain ⟨ad233, e233, hx233_0, hx233_1, hx233_2⟩ := at_T117 HR0.out x9_1 p233 q233
        (try rw [← Nbq5.out] at hx233_0)
        obtain rfl : ad230 = ad233 := (by injection e233)
        replace hx233_0 := (HB.out.cell (World.block_lt_of_cell? w _ hx233_0)).trans hx233_0
        replace hx233_1 := (HB.out.cell (World.block_lt_of_cell? w _ hx233_1)).trans hx233_1
        replace hx233_2 := (HB.out.cell (World.block_lt_of_cell? w _ hx233_2)).trans hx233_2
        replace p233 := eq_true p233
        replace q233 := eq_true q233
        have p234 : 0 ≤ (x9_1 : Int) := of_decide_eq_true kz5_2
        have q234 : x9_1 < (l0.length : Int) := of_decide_eq_true kz5_2
        obtain ⟨ad234, e234, hx234_0, hx234_1, hx234_2⟩ := at_T117 HR0.out x9_1 p234 q234
        (try rw [← Nbq5.out] at hx234_0)
        obtain rfl : ad230 = ad234 := (by injection e234)
        replace hx234_0 := (HB.out.cell (World.block_lt_of_cell? w _ hx234_0)).trans hx234_0
        replace hx234_1 := (HB.out.cell (World.block_lt_of_cell? w _ hx234_1)).trans hx234_1
        replace hx234_2 := (HB.out.cell (World.block_lt_of_cell? w _ hx234_2)).trans hx234_2
        replace p234 := eq_true p234
        replace q234 := eq_true q234
        go_wp2
        go_ret2
        exact ⟨_, by first | rfl | (simp [errW_none, errW_some] <;> rfl) | (simp [*, errW_none, errW_some] <;> rfl), by first | exact Kd.R_nil _ _ _ _ _ | exact Kd.N_nil _ _ _ _ _ | exact Kd.V_nil _ _ _ _ _ | exact Kd.Q_nil _ _ _ _ _ | exact Kd.S_nil _ _ _ _ _, by repeat (first | (with_reducible first | exact HB.out | apply below_alloc | apply pw_below_drewN | apply below_drew1) | exact HB.out)⟩
     ·rw [if_neg c4] at H
      exact absurd H (by simp)
    ·rw [if_neg c3] at H
     exact absurd H (by simp)
   ·rw [if_neg c2] at H
    have c2b0 : decide (x9_1 < (l0.length : Int)) = false := decide_eq_false c2
    clear c2
    by_cases c9 : (l0.length : Int) > 4000
    ·rw [if_pos c9] at H
     have c9b0 : decide (4000 < (l0.length : Int)) = true := decide_eq_true c9
     have c9b1 : decide (4000 < l0.length) = true := decide_eq_true (by omega)
     clear c9
     simp only [Option.some.injEq, Prod.mk.injEq] at H
     obtain ⟨rfl, rfl⟩ := H
     go_wp2
     go_ret2
     exact ⟨_, by first | rfl | (simp [errW_none, errW_some] <;> rfl) | (simp [*, errW_none, errW_some] <;> rfl), by first | exact Kd.R_nil _ _ _ _ _ | exact Kd.N_nil _ _ _ _ _ | exact Kd.V_nil _ _ _ _ _ | exact Kd.Q_nil _ _ _ _ _ | exact Kd.S_nil _ _ _ _ _, by repeat (first | (with_reducible first | exact HB.out | apply below_alloc | apply pw_below_drewN | apply below_drew1) | exact HB.out)⟩
    ·rw [if_neg c9] at H
     have c9b0 : decide (4000 < (l0.length : Int)) = false := decide_eq_false c9
     have c9b1 : decide (4000 < l0.length) = false := decide_eq_false (by omega)
     clear c9
     replace H := Option.bind_eq_some_iff.mp H
     obtain ⟨t235, A100, H⟩ := H
     replace H : (tumbrelref01_Items.l1 k1 l0 t235 (l0.length : Int) 0) = some (r1, r2) := H
     have A10 := Aside0.mk A100
     clear A100
     have H' := Aside0.mk H
     clear H
     go_wp2_with (first | ((with_reducible refine gate_callee (f := 71) rfl ?_); refine goesL_ (some 47) rfl rfl Try.func71 (by kernel_rfl) rfl #[.int .i64 (l0.length : Int)] rfl kz5_3 ?_; (with_reducible refine (tumbrelref01_Number.calls k1 (l0.length : Int) t235 _ A10.out).mono ?_); rintro e w11 ⟨v236, rfl, ho0, hb⟩; refine ⟨_, rfl, ?_⟩; have n0_ := Aside0.mk (Kd.R_lower ho0 (below_size kz5_1)); have n1_ := Aside0.mk (below_step kz5_1 hb); clear HB; have HO237 := n0_; have HB := n1_; clear n0_ n1_; (try clear hb); (try clear hb2); (try clear hk); (try clear hi); (try clear ho0)))
     go_loopg [5, 50] k1 (fun kq v5 v50 w' => ∃ (x5_2 : List Int) (x50_2 : Int), v50 = .int .i64 x50_2 ∧ Aside0 (tumbrelref01_Items.l1 kq l0 x5_2 (l0.length : Int) x50_2 = some (r1, r2)) ∧ Aside0 (kq ≤ k1) ∧ Aside0 (Kd.R (Kd.int .u8) 5 w' w.heap.size (fun _ => True) v5 x5_2) ∧ Aside0 (Below w.heap.size w w'))
     case atStart => exact ⟨(t235), (0), kz5_4, H', ⟨Nat.le_refl _⟩, ⟨by (with_reducible repeat (first | apply Kd.R_alloc | apply Kd.R_drewN | apply Kd.R_drew)); exact HO237.out⟩, ⟨by repeat (first | (with_reducible first | exact HB.out | apply below_alloc | apply pw_below_drewN | apply below_drew1) | exact HB.out)⟩⟩
     case round =>
      clear H'
      try clear c2
      try clear c2b0
      try clear p2
      try clear q2
      try clear hx2
      try clear c3
      try clear c3b0
      try clear c4
      try clear c4b0
      try clear c5
      try clear q5
      try clear c6
      try clear p6
      try clear c7
      try clear c7b0
      try clear c7b1
      try clear c8
      try clear c8b0
      try clear c8b1
      try clear c9
      try clear c9b0
      try clear c9b1
      try clear hx230_0
      try clear hx230_1
      try clear hx230_2
      try clear hx231_0
      try clear hx231_1
      try clear hx231_2
      try clear hx232_0
      try clear hx232_1
      try clear hx232_2
      try clear hx233_0
      try clear hx233_1
      try clear hx233_2
      try clear hx234_0
      try clear hx234_1
      try clear hx234_2
      try clear p230
      try clear p231
      try clear p232
      try clear p233
      try clear p234
      try clear q230
      try clear q231
      try clear q232
      try clear q233
      try clear q234
      obtain ⟨x5_2, x50_2, rfl, HA, HK2, HO_5, HB⟩ := hrel
      cases gk with
      | zero => exact absurd HA.out (by simp [tumbrelref01_Items.l1])
      | succ k2 =>
       have H := HA.out
       clear HA
       simp only [tumbrelref01_Items.l1] at H
       by_cases c12 : x50_2 < (l0.length : Int)
       ·rw [if_pos c12] at H
        have c12b0 : decide (x50_2 < (l0.length : Int)) = true := decide_eq_true c12
        clear c12
        by_cases c13 : 0 ≤ x50_2
        ·rw [if_pos c13] at H
         have c13b0 : decide (0 ≤ x50_2) = true := decide_eq_true c13
         clear c13
         by_cases c14 : x50_2 < (l0.length : Int)
         ·rw [if_pos c14] at H
          have c14b0 : decide (x50_2 < (l0.length : Int)) = true := decide_eq_true c14
          clear c14
          obtain ⟨bq15, hbq15⟩ : ∃ b_ : Bool, b_ = ((rd_T117 l0 x50_2).f0) := ⟨_, rfl⟩
          replace H : (if bq15 = true then (if x5_2.length < 140737488355328 then ((some (x5_2 ++ [2] : List Int)).bind fun y239 => ((tumbrelref01_Text.f k2 ((rd_T117 l0 x50_2).f2)).bind fun t243 => (if y239.length + t243.length < 140737488355328 then (tumbrelref01_Items.l1 k2 l0 (y239 ++ t243) (l0.length : Int) (wrap64 (x50_2 + 1))) else (none)))) else (none)) else (if x5_2.length < 140737488355328 then ((some (x5_2 ++ [1] : List Int)).bind fun y249 => ((tumbrelref01_Number.f k2 ((rd_T117 l0 x50_2).f1)).bind fun t253 => (if y249.length + t253.length < 140737488355328 then (tumbrelref01_Items.l1 k2 l0 (y249 ++ t253) (l0.length : Int) (wrap64 (x50_2 + 1))) else (none)))) else (none))) = some (r1, r2) := by rw [← hbq15] at H; exact H
          have Nbq15 := Aside0.mk hbq15
          clear hbq15
          by_cases c16 : bq15 = true
          ·subst c16
           have H1 : (if x5_2.length < 140737488355328 then ((some (x5_2 ++ [2] : List Int)).bind fun y239 => ((tumbrelref01_Text.f k2 ((rd_T117 l0 x50_2).f2)).bind fun t243 => (if y239.length + t243.length < 140737488355328 then (tumbrelref01_Items.l1 k2 l0 (y239 ++ t243) (l0.length : Int) (wrap64 (x50_2 + 1))) else (none)))) else (none)) = some (r1, r2) := by rw [if_pos rfl] at H; exact H
           clear H
           have H := H1
           clear H1
           by_cases c17 : x5_2.length < 140737488355328
           ·rw [if_pos c17] at H
            have LMc17 := Aside0.mk c17
            clear c17
            obtain ⟨y239, hy239⟩ : ∃ y_ : List Int, y_ = (x5_2 ++ [2]) := ⟨_, rfl⟩
            replace H : ((tumbrelref01_Text.f k2 ((rd_T117 l0 x50_2).f2)).bind fun t243 => (if y239.length + t243.length < 140737488355328 then (tumbrelref01_Items.l1 k2 l0 (y239 ++ t243) (l0.length : Int) (wrap64 (x50_2 + 1))) else (none))) = some (r1, r2) := by first | (rw [hy239]; with_reducible exact H) | (have H2_ := (Option.bind_some _ _).symm.trans H; rw [hy239]; with_reducible exact H2_) | (have H2_ := (Option.bind_some _ _).symm.trans H; with_reducible exact H2_) | with_reducible exact H | (rw [hy239]; exact H) | exact H
            have Ny239 := Aside0.mk hy239
            clear hy239
            replace H := Option.bind_eq_some_iff.mp H
            obtain ⟨t243, A180, H⟩ := H
            replace H : (if y239.length + t243.length < 140737488355328 then (tumbrelref01_Items.l1 k2 l0 (y239 ++ t243) (l0.length : Int) (wrap64 (x50_2 + 1))) else (none)) = some (r1, r2) := H
            have A18 := Aside0.mk A180
            clear A180
            by_cases c19 : y239.length + t243.length < 140737488355328
            ·rw [if_pos c19] at H
             have LMc19 := Aside0.mk c19
             clear c19
             obtain ⟨y246, hy246⟩ : ∃ y_ : List Int, y_ = (y239 ++ t243) := ⟨_, rfl⟩
             replace H : (tumbrelref01_Items.l1 k2 l0 y246 (l0.length : Int) (wrap64 (x50_2 + 1))) = some (r1, r2) := by first | (rw [hy246]; with_reducible exact H) | (have H2_ := (Option.bind_some _ _).symm.trans H; rw [hy246]; with_reducible exact H2_) | (have H2_ := (Option.bind_some _ _).symm.trans H; with_reducible exact H2_) | with_reducible exact H | (rw [hy246]; exact H) | exact H
             have Ny246 := Aside0.mk hy246
             clear hy246
             have H' := Aside0.mk H
             clear H
             have p238 : 0 ≤ (x50_2 : Int) := of_decide_eq_true kz5_2
             have q238 : x50_2 < (l0.length : Int) := of_decide_eq_true kz5_2
             obtain ⟨ad238, e238, hx238_0, hx238_1, hx238_2⟩ := at_T117 HR0.out x50_2 p238 q238
             (try rw [← Nbq15.out] at hx238_0)
             cases e238
             replace hx238_0 := (HB.out.cell (World.block_lt_of_cell? w _ hx238_0)).trans hx238_0
             replace hx238_1 := (HB.out.cell (World.block_lt_of_cell? w _ hx238_1)).trans hx238_1
             replace hx238_2 := (HB.out.cell (World.block_lt_of_cell? w _ hx238_2)).trans hx238_2
             replace p238 := eq_true p238
             replace q238 := eq_true q238
             try go_wp2
             have n0_ := Aside0.mk (Kd.R_drew HO_5.out)
             have n1_ := Aside0.mk (below_drew1 HB.out)
             clear HO_5
             clear HB
             have HO_5 := n0_
             have HB := n1_
             clear n0_ n1_
             have p242 : 0 ≤ (x50_2 : Int) := of_decide_eq_true kz5_2
             have q242 : x50_2 < (l0.length : Int) := of_decide_eq_true kz5_2
             obtain ⟨ad242, e242, hx242_0, hx242_1, hx242_2⟩ := at_T117 HR0.out x50_2 p242 q242
             (try rw [← Nbq15.out] at hx242_0)
             have hw242_2 := hx242_2
             have hw242_1 := hx242_1
             have hw242_0 := hx242_0
             obtain rfl : ad238 = ad242 := (by injection e242)
             replace hx242_0 := (HB.out.cell (World.block_lt_of_cell? w _ hx242_0)).trans hx242_0
             replace hx242_1 := (HB.out.cell (World.block_lt_of_cell? w _ hx242_1)).trans hx242_1
             replace hx242_2 := (HB.out.cell (World.block_lt_of_cell? w _ hx242_2)).trans hx242_2
             replace p242 := eq_true p242
             replace q242 := eq_true q242
             refine start_ (n := 11) (S := fun w' => w'.cell? (ad238.add ((x50_2).toNat * 3)) = some (.bool (true)) ∧ w'.cell? ⟨(ad238.add ((x50_2).toNat * 3)).block, (ad238.add ((x50_2).toNat * 3)).off + 1, none⟩ = some (.int .i64 ((rd_T117 l0 x50_2).f1)) ∧ w'.cell? ⟨(ad238.add ((x50_2).toNat * 3)).block, (ad238.add ((x50_2).toNat * 3)).off + 2, none⟩ = some (.string ((rd_T117 l0 x50_2).f2))) (ds := []) #[false, false, false, false, false, false, false, false, false, false, false] (by kernel_rfl) rfl rfl ⟨((HB.out.cell (World.block_lt_of_cell? w _ hw242_0)).trans hw242_0), ((HB.out.cell (World.block_lt_of_cell? w _ hw242_1)).trans hw242_1), ((HB.out.cell (World.block_lt_of_cell? w _ hw242_2)).trans hw242_2)⟩ (fun hHeld => ?_); refine with_tabW tumbrelref01_Items.tab14 tumbrelref01_Items.bits14 (fun HT_ HW_ => ?_)
             generalize wr.drew = w20 at HO_5 HB hx242_0 hx242_1 hx242_2 hHeld ⊢
             refine pure_ (i := 0) (N := some 58) (v := ?_) (a' := ?_) #[true, false, false, false, false, false, false, false, false, false, false] rfl rfl (any_of HT_.out (by kernel_rfl)) (fun _ _ _ h => h) (Or.inl ⟨by rfl, ?_⟩) ?_ ?_
             rotate_left
             ·intro w'
              go_simp
              with_reducible rfl
             rotate_left
             ·simp only [Act.put, sA_, sB_, sC_, i64_w, i32_w]
              rfl
             refine pure_ (i := 3) (N := some 61) (v := ?_) (a' := ?_) #[true, false, false, true, false, false, false, false, false, false, false] rfl rfl (any_of HT_.out (by kernel_rfl)) (fun _ _ _ h => h) (Or.inl ⟨by rfl, ?_⟩) ?_ ?_
             rotate_left
             ·intro w'
              go_simp
              with_reducible rfl
             rotate_left
             ·simp only [Act.put, sA_, sB_, sC_, i64_w, i32_w]
              rfl
             refine pure_ (i := 4) (N := some 62) (v := ?_) (a' := ?_) #[true, false, false, true, true, false, false, false, false, false, false] rfl rfl (any_of HT_.out (by kernel_rfl)) (fun _ _ _ h => h) (Or.inl ⟨by rfl, ?_⟩) ?_ ?_
             rotate_left
             ·intro w'
              go_simp
              with_reducible rfl
             rotate_left
             ·simp only [Act.put, sA_, sB_, sC_, i64_w, i32_w]
              rfl
             refine pure_ (i := 5) (N := some 63) (v := ?_) (a' := ?_) #[true, false, false, true, true, true, false, false, false, false, false] rfl rfl (any_of HT_.out (by kernel_rfl)) (fun _ _ _ h => h) (Or.inl ⟨by rfl, ?_⟩) ?_ ?_
             rotate_left
             ·intro w'
              go_simp
              with_reducible rfl
             rotate_left
             ·simp only [Act.put, sA_, sB_, sC_, i64_w, i32_w]
              rfl
             refine pure_ (i := 6) (N := some 64) (v := ?_) (a' := ?_) #[true, false, false, true, true, true, true, false, false, false, false] rfl rfl (any_of HT_.out (by kernel_rfl)) (fun _ _ _ h => h) (Or.inl ⟨by rfl, ?_⟩) ?_ ?_
             rotate_left
             ·intro w'
              go_simp
              with_reducible rfl
             rotate_left
             ·simp only [Act.put, sA_, sB_, sC_, i64_w, i32_w]
              rfl
             refine take_ (i := 7) (N := some 65) (v := ?_) (a' := ?_) #[true, false, false, true, true, true, true, true, false, false, false] rfl rfl (take_ofW HT_.out HW_.out (by kernel_rfl)) (fun _ _ _ h => h) (Or.inl ⟨by rfl, ?_⟩) hHeld ?_ ?_
             rotate_left
             ·rintro w' ⟨s0, s1, s2⟩
              go_simp
              with_reducible rfl
             rotate_left
             ·simp only [Act.put, sA_, sB_, sC_, i64_w, i32_w]
              rfl
             refine one_ (i := 1) (N := some 59) #[true, true, false, true, true, true, true, true, false, false, false] rfl rfl (one_of HT_.out (by kernel_rfl)) (by decide) (fun K hK => ?_)
             refine value_ (w1 := ?_) (v := ?_) (by rfl) rfl ?_ ?_
             rotate_left 2
             ·go_simp
              constructor
              ·rfl
              ·rfl
             refine hK.out _ _ ⟨(World.cell?_alloc_lt _ _ _ (World.block_lt_of_cell? _ _ (((HB.out.cell (World.block_lt_of_cell? w _ hw242_0)).trans hw242_0)))).trans (((HB.out.cell (World.block_lt_of_cell? w _ hw242_0)).trans hw242_0)), (World.cell?_alloc_lt _ _ _ (World.block_lt_of_cell? _ _ (((HB.out.cell (World.block_lt_of_cell? w _ hw242_1)).trans hw242_1)))).trans (((HB.out.cell (World.block_lt_of_cell? w _ hw242_1)).trans hw242_1)), (World.cell?_alloc_lt _ _ _ (World.block_lt_of_cell? _ _ (((HB.out.cell (World.block_lt_of_cell? w _ hw242_2)).trans hw242_2)))).trans (((HB.out.cell (World.block_lt_of_cell? w _ hw242_2)).trans hw242_2))⟩ (fun hHeld => ?_)
             clear hK K
             refine norm_ (a' := ?_) ?_ ?_
             rotate_left
             ·show Act.put _ (some 59) _ = _
              simp only [Act.put, sA_, sB_, sC_, i64_w, i32_w]
              rfl
             refine one_ (i := 2) (N := some 60) #[true, true, true, true, true, true, true, true, false, false, false] rfl rfl (one_of HT_.out (by kernel_rfl)) (by decide) (fun K hK => ?_)
             refine Kd.R_append_step (Kd.int .u8) (w0 := w) w.heap.size (by rfl) (.tmp 58) (.tmp 59) 50 5 (.int .u8 0) 1 rfl Try.underlying50 info5 rfl (by decide) (by omega) u5 x5_2 2 [.int .u8 2] (fun _ => True) (fun _ => False) rfl rfl ?aP (fun _ hk => hk.elim) ?aF ?aO ?aB ?aS ?aL ?_
             (case aP => exact rfl)
             (case aB => exact kz5_1)
             (case aF => exact (fun _ _ => trivial))
             (case aO => exact (by (with_reducible repeat (first | apply Kd.R_alloc | apply Kd.R_drewN | apply Kd.R_drew)); exact HO_5.out))
             (case aS => exact (below_size kz5_1))
             (case aL => have := LMc17.out; omega)
             intro v240 w21 ho hb hg hat
             rw [← Ny239.out] at ho
             have n0_ := Aside0.mk (hb)
             have n1_ := Aside0.mk (ho)
             clear HB
             clear HO_5
             have HB := n0_
             have HO241 := n1_
             clear n0_ n1_
             clear ho hb hg hat
             refine hK.out _ _ ⟨((HB.out.cell (World.block_lt_of_cell? w _ hw242_0)).trans hw242_0), ((HB.out.cell (World.block_lt_of_cell? w _ hw242_1)).trans hw242_1), ((HB.out.cell (World.block_lt_of_cell? w _ hw242_2)).trans hw242_2)⟩ (fun hHeld => ?_)
             clear hK K
             refine norm_ (a' := ?_) ?_ ?_
             rotate_left
             ·show Act.put _ (some 60) _ = _
              simp only [Act.put, sA_, sB_, sC_, i64_w, i32_w]
              rfl
             refine one_ (i := 8) (N := some 66) #[true, true, true, true, true, true, true, true, true, false, false] rfl rfl (one_of HT_.out (by kernel_rfl)) (by decide) (fun K hK => ?_)
             refine goes_ Try.func72 (by kernel_rfl) rfl #[.string ((rd_T117 l0 x50_2).f2)] (by rfl) rfl rfl kz5_3 ?_
             with_reducible refine (tumbrelref01_Text.calls k2 ((rd_T117 l0 x50_2).f2) t243 _ A18.out).mono ?_
             rintro e w22 ⟨v244, rfl, ho0, hb⟩
             refine ⟨_, rfl, ?_⟩
             have n0_ := Aside0.mk (Kd.R_elder' (by (with_reducible repeat (first | apply Kd.R_alloc | apply Kd.R_drewN | apply Kd.R_drew)); exact HO241.out) (Kd.R_base ho0) hb)
             have n1_ := Aside0.mk (Kd.R_lower (Kd.R_new' ho0 (Kd.R_lt (by (with_reducible repeat (first | apply Kd.R_alloc | apply Kd.R_drewN | apply Kd.R_drew)); exact HO241.out))) (below_size kz5_1))
             have n2_ := Aside0.mk (below_step kz5_1 hb)
             clear HO241
             clear HB
             have HO241 := n0_
             have HO245 := n1_
             have HB := n2_
             clear n0_ n1_ n2_
             (try clear hb)
             (try clear hb2)
             (try clear hk)
             (try clear hi)
             (try clear ho0)
             obtain ⟨Ao24, co24, eo24⟩ := Kd.R_slice HO245.out
             (first | subst eo24 | (injection eo24 with f1_ f2_ f3_; have f4_ := f1_.symm; have f5_ := f3_.symm; clear f1_ f2_ f3_; subst f4_; subst f5_))
             refine hK.out _ _ ⟨((HB.out.cell (World.block_lt_of_cell? w _ hw242_0)).trans hw242_0), ((HB.out.cell (World.block_lt_of_cell? w _ hw242_1)).trans hw242_1), ((HB.out.cell (World.block_lt_of_cell? w _ hw242_2)).trans hw242_2)⟩ (fun hHeld => ?_)
             clear hK K
             refine norm_ (a' := ?_) ?_ ?_
             rotate_left
             ·show Act.put _ (some 66) _ = _
              simp only [Act.put, sA_, sB_, sC_, i64_w, i32_w]
              rfl
             refine one_ (i := 9) (N := some 67) #[true, true, true, true, true, true, true, true, true, true, false] rfl rfl (one_of HT_.out (by kernel_rfl)) (by decide) (fun K hK => ?_)
             refine Kd.R_append_rows_step (Kd.int .u8) (w0 := w) w.heap.size (by rfl) (.tmp 60) (.tmp 66) 50 5 (.int .u8 0) 1 rfl Try.underlying50 info5 rfl (by decide) (by omega) v240 y239 t243 _ _ _ (fun k_ => some k_ ≠ (.slice Ao24 t243.length co24 : Value).ownBlock) (fun _ => False) rfl rfl ?aO ?aR (fun _ _ h => h) (fun _ h => h.elim) ?aF ?aB ?aS ?aL ?_
             (case aR => repeat (first | exact (Kd.R_reads' HO245.out).2.2 | (with_reducible refine Kd.C_alloc ?_ _) | (with_reducible refine Kd.C_drewN ?_ _) | (with_reducible refine Kd.C_drew ?_)))
             (case aB => exact kz5_1)
             (case aF => exact (fun k_ hk => Kd.fresh' (Kd.R_lt (by (with_reducible repeat (first | apply Kd.R_alloc | apply Kd.R_drewN | apply Kd.R_drew)); exact HO245.out)) k_ hk))
             (case aO => exact (by (with_reducible repeat (first | apply Kd.R_alloc | apply Kd.R_drewN | apply Kd.R_drew)); exact Kd.R_mono HO241.out (fun _ hk => hk.2)))
             (case aS => exact (below_size kz5_1))
             (case aL => have := LMc19.out; omega)
             intro v247 w23 ho hb hg hat
             rw [← Ny246.out] at ho
             have n0_ := Aside0.mk (Kd.R_after (ok := (fun _ => True)) (by (with_reducible repeat (first | apply Kd.R_alloc | apply Kd.R_drewN | apply Kd.R_drew)); exact HO245.out) hg hat)
             have n1_ := Aside0.mk (hb)
             have n2_ := Aside0.mk (ho)
             clear HO245
             clear HB
             clear HO241
             have HO245 := n0_
             have HB := n1_
             have HO248 := n2_
             clear n0_ n1_ n2_
             clear ho hb hg hat
             refine hK.out _ _ ⟨((HB.out.cell (World.block_lt_of_cell? w _ hw242_0)).trans hw242_0), ((HB.out.cell (World.block_lt_of_cell? w _ hw242_1)).trans hw242_1), ((HB.out.cell (World.block_lt_of_cell? w _ hw242_2)).trans hw242_2)⟩ (fun hHeld => ?_)
             clear hK K
             refine norm_ (a' := ?_) ?_ ?_
             rotate_left
             ·show Act.put _ (some 67) _ = _
              simp only [Act.put, sA_, sB_, sC_, i64_w, i32_w]
              rfl
             refine pure_ (i := 10) (N := some 5) (v := ?_) (a' := ?_) #[true, true, true, true, true, true, true, true, true, true, true] rfl rfl (any_of HT_.out (by kernel_rfl)) (fun _ _ _ h => h) (Or.inl ⟨by rfl, ?_⟩) ?_ ?_
             rotate_left
             ·intro w'
              go_simp
              with_reducible rfl
             rotate_left
             ·simp only [Act.put, sA_, sB_, sC_, i64_w, i32_w]
              rfl
             refine done_ (done_of HT_.out (by kernel_rfl)) ?_
             try go_wp2
             go_roundg k2
             case measure => have := HK1.out; have := HK2.out; omega
             case rel => exact ⟨(y246), (wrap64 (x50_2 + 1)), kz5_4, H', ⟨by have := HK1.out; have := HK2.out; omega⟩, ⟨by (with_reducible repeat (first | apply Kd.R_alloc | apply Kd.R_drewN | apply Kd.R_drew)); exact Kd.R_mono HO248.out (fun _ hk => trivial)⟩, ⟨by repeat (first | (with_reducible first | exact HB.out | apply below_alloc | apply pw_below_drewN | apply below_drew1) | exact HB.out)⟩⟩
            ·rw [if_neg c19] at H
             exact absurd H (by simp)
           ·rw [if_neg c17] at H
            exact absurd H (by simp)
          ·replace c16 := Bool.eq_false_iff.mpr c16
           subst c16
           have H1 : (if x5_2.length < 140737488355328 then ((some (x5_2 ++ [1] : List Int)).bind fun y249 => ((tumbrelref01_Number.f k2 ((rd_T117 l0 x50_2).f1)).bind fun t253 => (if y249.length + t253.length < 140737488355328 then (tumbrelref01_Items.l1 k2 l0 (y249 ++ t253) (l0.length : Int) (wrap64 (x50_2 + 1))) else (none)))) else (none)) = some (r1, r2) := by rw [if_neg (show ¬ (false = true) by decide)] at H; exact H
           clear H
           have H := H1
           clear H1
           by_cases c25 : x5_2.length < 140737488355328
           ·rw [if_pos c25] at H
            have LMc25 := Aside0.mk c25
            clear c25
            obtain ⟨y249, hy249⟩ : ∃ y_ : List Int, y_ = (x5_2 ++ [1]) := ⟨_, rfl⟩
            replace H : ((tumbrelref01_Number.f k2 ((rd_T117 l0 x50_2).f1)).bind fun t253 => (if y249.length + t253.length < 140737488355328 then (tumbrelref01_Items.l1 k2 l0 (y249 ++ t253) (l0.length : Int) (wrap64 (x50_2 + 1))) else (none))) = some (r1, r2) := by first | (rw [hy249]; with_reducible exact H) | (have H2_ := (Option.bind_some _ _).symm.trans H; rw [hy249]; with_reducible exact H2_) | (have H2_ := (Option.bind_some _ _).symm.trans H; with_reducible exact H2_) | with_reducible exact H | (rw [hy249]; exact H) | exact H
            have Ny249 := Aside0.mk hy249
            clear hy249
            replace H := Option.bind_eq_some_iff.mp H
            obtain ⟨t253, A260, H⟩ := H
            replace H : (if y249.length + t253.length < 140737488355328 then (tumbrelref01_Items.l1 k2 l0 (y249 ++ t253) (l0.length : Int) (wrap64 (x50_2 + 1))) else (none)) = some (r1, r2) := H
            have A26 := Aside0.mk A260
            clear A260
            by_cases c27 : y249.length + t253.length < 140737488355328
            ·rw [if_pos c27] at H
             have LMc27 := Aside0.mk c27
             clear c27
             obtain ⟨y256, hy256⟩ : ∃ y_ : List Int, y_ = (y249 ++ t253) := ⟨_, rfl⟩
             replace H : (tumbrelref01_Items.l1 k2 l0 y256 (l0.length : Int) (wrap64 (x50_2 + 1))) = some (r1, r2) := by first | (rw [hy256]; with_reducible exact H) | (have H2_ := (Option.bind_some _ _).symm.trans H; rw [hy256]; with_reducible exact H2_) | (have H2_ := (Option.bind_some _ _).symm.trans H; with_reducible exact H2_) | with_reducible exact H | (rw [hy256]; exact H) | exact H
             have Ny256 := Aside0.mk hy256
             clear hy256
             have H' := Aside0.mk H
             clear H
             have p238 : 0 ≤ (x50_2 : Int) := of_decide_eq_true kz5_2
             have q238 : x50_2 < (l0.length : Int) := of_decide_eq_true kz5_2
             obtain ⟨ad238, e238, hx238_0, hx238_1, hx238_2⟩ := at_T117 HR0.out x50_2 p238 q238
             (try rw [← Nbq15.out] at hx238_0)
             cases e238
             replace hx238_0 := (HB.out.cell (World.block_lt_of_cell? w _ hx238_0)).trans hx238_0
             replace hx238_1 := (HB.out.cell (World.block_lt_of_cell? w _ hx238_1)).trans hx238_1
             replace hx238_2 := (HB.out.cell (World.block_lt_of_cell? w _ hx238_2)).trans hx238_2
             replace p238 := eq_true p238
             replace q238 := eq_true q238
             try go_wp2
             have n0_ := Aside0.mk (Kd.R_drew HO_5.out)
             have n1_ := Aside0.mk (below_drew1 HB.out)
             clear HO_5
             clear HB
             have HO_5 := n0_
             have HB := n1_
             clear n0_ n1_
             have p252 : 0 ≤ (x50_2 : Int) := of_decide_eq_true kz5_2
             have q252 : x50_2 < (l0.length : Int) := of_decide_eq_true kz5_2
             obtain ⟨ad252, e252, hx252_0, hx252_1, hx252_2⟩ := at_T117 HR0.out x50_2 p252 q252
             (try rw [← Nbq15.out] at hx252_0)
             have hw252_2 := hx252_2
             have hw252_1 := hx252_1
             have hw252_0 := hx252_0
             obtain rfl : ad238 = ad252 := (by injection e252)
             replace hx252_0 := (HB.out.cell (World.block_lt_of_cell? w _ hx252_0)).trans hx252_0
             replace hx252_1 := (HB.out.cell (World.block_lt_of_cell? w _ hx252_1)).trans hx252_1
             replace hx252_2 := (HB.out.cell (World.block_lt_of_cell? w _ hx252_2)).trans hx252_2
             replace p252 := eq_true p252
             replace q252 := eq_true q252
             refine start_ (n := 11) (S := fun w' => w'.cell? (ad238.add ((x50_2).toNat * 3)) = some (.bool (false)) ∧ w'.cell? ⟨(ad238.add ((x50_2).toNat * 3)).block, (ad238.add ((x50_2).toNat * 3)).off + 1, none⟩ = some (.int .i64 ((rd_T117 l0 x50_2).f1)) ∧ w'.cell? ⟨(ad238.add ((x50_2).toNat * 3)).block, (ad238.add ((x50_2).toNat * 3)).off + 2, none⟩ = some (.string ((rd_T117 l0 x50_2).f2))) (ds := []) #[false, false, false, false, false, false, false, false, false, false, false] (by kernel_rfl) rfl rfl ⟨((HB.out.cell (World.block_lt_of_cell? w _ hw252_0)).trans hw252_0), ((HB.out.cell (World.block_lt_of_cell? w _ hw252_1)).trans hw252_1), ((HB.out.cell (World.block_lt_of_cell? w _ hw252_2)).trans hw252_2)⟩ (fun hHeld => ?_); refine with_tabW tumbrelref01_Items.tab15 tumbrelref01_Items.bits15 (fun HT_ HW_ => ?_)
             generalize wr.drew = w28 at HO_5 HB hx252_0 hx252_1 hx252_2 hHeld ⊢
             refine pure_ (i := 0) (N := some 68) (v := ?_) (a' := ?_) #[true, false, false, false, false, false, false, false, false, false, false] rfl rfl (any_of HT_.out (by kernel_rfl)) (fun _ _ _ h => h) (Or.inl ⟨by rfl, ?_⟩) ?_ ?_
             rotate_left
             ·intro w'
              go_simp
              with_reducible rfl
             rotate_left
             ·simp only [Act.put, sA_, sB_, sC_, i64_w, i32_w]
              rfl
             refine pure_ (i := 3) (N := some 71) (v := ?_) (a' := ?_) #[true, false, false, true, false, false, false, false, false, false, false] rfl rfl (any_of HT_.out (by kernel_rfl)) (fun _ _ _ h => h) (Or.inl ⟨by rfl, ?_⟩) ?_ ?_
             rotate_left
             ·intro w'
              go_simp
              with_reducible rfl
             rotate_left
             ·simp only [Act.put, sA_, sB_, sC_, i64_w, i32_w]
              rfl
             refine pure_ (i := 4) (N := some 72) (v := ?_) (a' := ?_) #[true, false, false, true, true, false, false, false, false, false, false] rfl rfl (any_of HT_.out (by kernel_rfl)) (fun _ _ _ h => h) (Or.inl ⟨by rfl, ?_⟩) ?_ ?_
             rotate_left
             ·intro w'
              go_simp
              with_reducible rfl
             rotate_left
             ·simp only [Act.put, sA_, sB_, sC_, i64_w, i32_w]
              rfl
             refine pure_ (i := 5) (N := some 73) (v := ?_) (a' := ?_) #[true, false, false, true, true, true, false, false, false, false, false] rfl rfl (any_of HT_.out (by kernel_rfl)) (fun _ _ _ h => h) (Or.inl ⟨by rfl, ?_⟩) ?_ ?_
             rotate_left
             ·intro w'
              go_simp
              with_reducible rfl
             rotate_left
             ·simp only [Act.put, sA_, sB_, sC_, i64_w, i32_w]
              rfl
             refine pure_ (i := 6) (N := some 74) (v := ?_) (a' := ?_) #[true, false, false, true, true, true, true, false, false, false, false] rfl rfl (any_of HT_.out (by kernel_rfl)) (fun _ _ _ h => h) (Or.inl ⟨by rfl, ?_⟩) ?_ ?_
             rotate_left
             ·intro w'
              go_simp
              with_reducible rfl
             rotate_left
             ·simp only [Act.put, sA_, sB_, sC_, i64_w, i32_w]
              rfl
             refine take_ (i := 7) (N := some 75) (v := ?_) (a' := ?_) #[true, false, false, true, true, true, true, true, false, false, false] rfl rfl (take_ofW HT_.out HW_.out (by kernel_rfl)) (fun _ _ _ h => h) (Or.inl ⟨by rfl, ?_⟩) hHeld ?_ ?_
             rotate_left
             ·rintro w' ⟨s0, s1, s2⟩
              go_simp
              with_reducible rfl
             rotate_left
             ·simp only [Act.put, sA_, sB_, sC_, i64_w, i32_w]
              rfl
             refine one_ (i := 1) (N := some 69) #[true, true, false, true, true, true, true, true, false, false, false] rfl rfl (one_of HT_.out (by kernel_rfl)) (by decide) (fun K hK => ?_)
             refine value_ (w1 := ?_) (v := ?_) (by rfl) rfl ?_ ?_
             rotate_left 2
             ·go_simp
              constructor
              ·rfl
              ·rfl
             refine hK.out _ _ ⟨(World.cell?_alloc_lt _ _ _ (World.block_lt_of_cell? _ _ (((HB.out.cell (World.block_lt_of_cell? w _ hw252_0)).trans hw252_0)))).trans (((HB.out.cell (World.block_lt_of_cell? w _ hw252_0)).trans hw252_0)), (World.cell?_alloc_lt _ _ _ (World.block_lt_of_cell? _ _ (((HB.out.cell (World.block_lt_of_cell? w _ hw252_1)).trans hw252_1)))).trans (((HB.out.cell (World.block_lt_of_cell? w _ hw252_1)).trans hw252_1)), (World.cell?_alloc_lt _ _ _ (World.block_lt_of_cell? _ _ (((HB.out.cell (World.block_lt_of_cell? w _ hw252_2)).trans hw252_2)))).trans (((HB.out.cell (World.block_lt_of_cell? w _ hw252_2)).trans hw252_2))⟩ (fun hHeld => ?_)
             clear hK K
             refine norm_ (a' := ?_) ?_ ?_
             rotate_left
             ·show Act.put _ (some 69) _ = _
              simp only [Act.put, sA_, sB_, sC_, i64_w, i32_w]
              rfl
             refine one_ (i := 2) (N := some 70) #[true, true, true, true, true, true, true, true, false, false, false] rfl rfl (one_of HT_.out (by kernel_rfl)) (by decide) (fun K hK => ?_)
             refine Kd.R_append_step (Kd.int .u8) (w0 := w) w.heap.size (by rfl) (.tmp 68) (.tmp 69) 50 5 (.int .u8 0) 1 rfl Try.underlying50 info5 rfl (by decide) (by omega) u5 x5_2 1 [.int .u8 1] (fun _ => True) (fun _ => False) rfl rfl ?aP (fun _ hk => hk.elim) ?aF ?aO ?aB ?aS ?aL ?_
             (case aP => exact rfl)
             (case aB => exact kz5_1)
             (case aF => exact (fun _ _ => trivial))
             (case aO => exact (by (with_reducible repeat (first | apply Kd.R_alloc | apply Kd.R_drewN | apply Kd.R_drew)); exact HO_5.out))
             (case aS => exact (below_size kz5_1))
             (case aL => have := LMc25.out; omega)
             intro v250 w29 ho hb hg hat
             rw [← Ny249.out] at ho
             have n0_ := Aside0.mk (hb)
             have n1_ := Aside0.mk (ho)
             clear HB
             clear HO_5
             have HB := n0_
             have HO251 := n1_
             clear n0_ n1_
             clear ho hb hg hat
             refine hK.out _ _ ⟨((HB.out.cell (World.block_lt_of_cell? w _ hw252_0)).trans hw252_0), ((HB.out.cell (World.block_lt_of_cell? w _ hw252_1)).trans hw252_1), ((HB.out.cell (World.block_lt_of_cell? w _ hw252_2)).trans hw252_2)⟩ (fun hHeld => ?_)
             clear hK K
             refine norm_ (a' := ?_) ?_ ?_
             rotate_left
             ·show Act.put _ (some 70) _ = _
              simp only [Act.put, sA_, sB_, sC_, i64_w, i32_w]
              rfl
             refine one_ (i := 8) (N := some 76) #[true, true, true, true, true, true, true, true, true, false, false] rfl rfl (one_of HT_.out (by kernel_rfl)) (by decide) (fun K hK => ?_)
             refine goes_ Try.func71 (by kernel_rfl) rfl #[.int .i64 ((rd_T117 l0 x50_2).f1)] (by rfl) rfl rfl kz5_3 ?_
             with_reducible refine (tumbrelref01_Number.calls k2 ((rd_T117 l0 x50_2).f1) t253 _ A26.out).mono ?_
             rintro e w30 ⟨v254, rfl, ho0, hb⟩
             refine ⟨_, rfl, ?_⟩
             have n0_ := Aside0.mk (Kd.R_elder' (by (with_reducible repeat (first | apply Kd.R_alloc | apply Kd.R_drewN | apply Kd.R_drew)); exact HO251.out) (Kd.R_base ho0) hb)
             have n1_ := Aside0.mk (Kd.R_lower (Kd.R_new' ho0 (Kd.R_lt (by (with_reducible repeat (first | apply Kd.R_alloc | apply Kd.R_drewN | apply Kd.R_drew)); exact HO251.out))) (below_size kz5_1))
             have n2_ := Aside0.mk (below_step kz5_1 hb)
             clear HO251
             clear HB
             have HO251 := n0_
             have HO255 := n1_
             have HB := n2_
             clear n0_ n1_ n2_
             (try clear hb)
             (try clear hb2)
             (try clear hk)
             (try clear hi)
             (try clear ho0)
             obtain ⟨Ao32, co32, eo32⟩ := Kd.R_slice HO255.out
             (first | subst eo32 | (injection eo32 with f1_ f2_ f3_; have f4_ := f1_.symm; have f5_ := f3_.symm; clear f1_ f2_ f3_; subst f4_; subst f5_))
             refine hK.out _ _ ⟨((HB.out.cell (World.block_lt_of_cell? w _ hw252_0)).trans hw252_0), ((HB.out.cell (World.block_lt_of_cell? w _ hw252_1)).trans hw252_1), ((HB.out.cell (World.block_lt_of_cell? w _ hw252_2)).trans hw252_2)⟩ (fun hHeld => ?_)
             clear hK K
             refine norm_ (a' := ?_) ?_ ?_
             rotate_left
             ·show Act.put _ (some 76) _ = _
              simp only [Act.put, sA_, sB_, sC_, i64_w, i32_w]
              rfl
             refine one_ (i := 9) (N := some 77) #[true, true, true, true, true, true, true, true, true, true, false] rfl rfl (one_of HT_.out (by kernel_rfl)) (by decide) (fun K hK => ?_)
             refine Kd.R_append_rows_step (Kd.int .u8) (w0 := w) w.heap.size (by rfl) (.tmp 70) (.tmp 76) 50 5 (.int .u8 0) 1 rfl Try.underlying50 info5 rfl (by decide) (by omega) v250 y249 t253 _ _ _ (fun k_ => some k_ ≠ (.slice Ao32 t253.length co32 : Value).ownBlock) (fun _ => False) rfl rfl ?aO ?aR (fun _ _ h => h) (fun _ h => h.elim) ?aF ?aB ?aS ?aL ?_
             (case aR => repeat (first | exact (Kd.R_reads' HO255.out).2.2 | (with_reducible refine Kd.C_alloc ?_ _) | (with_reducible refine Kd.C_drewN ?_ _) | (with_reducible refine Kd.C_drew ?_)))
             (case aB => exact kz5_1)
             (case aF => exact (fun k_ hk => Kd.fresh' (Kd.R_lt (by (with_reducible repeat (first | apply Kd.R_alloc | apply Kd.R_drewN | apply Kd.R_drew)); exact HO255.out)) k_ hk))
             (case aO => exact (by (with_reducible repeat (first | apply Kd.R_alloc | apply Kd.R_drewN | apply Kd.R_drew)); exact Kd.R_mono HO251.out (fun _ hk => hk.2)))
             (case aS => exact (below_size kz5_1))
             (case aL => have := LMc27.out; omega)
             intro v257 w31 ho hb hg hat
             rw [← Ny256.out] at ho
             have n0_ := Aside0.mk (Kd.R_after (ok := (fun _ => True)) (by (with_reducible repeat (first | apply Kd.R_alloc | apply Kd.R_drewN | apply Kd.R_drew)); exact HO255.out) hg hat)
             have n1_ := Aside0.mk (hb)
             have n2_ := Aside0.mk (ho)
             clear HO255
             clear HB
             clear HO251
             have HO255 := n0_
             have HB := n1_
             have HO258 := n2_
             clear n0_ n1_ n2_
             clear ho hb hg hat
             refine hK.out _ _ ⟨((HB.out.cell (World.block_lt_of_cell? w _ hw252_0)).trans hw252_0), ((HB.out.cell (World.block_lt_of_cell? w _ hw252_1)).trans hw252_1), ((HB.out.cell (World.block_lt_of_cell? w _ hw252_2)).trans hw252_2)⟩ (fun hHeld => ?_)
             clear hK K
             refine norm_ (a' := ?_) ?_ ?_
             rotate_left
             ·show Act.put _ (some 77) _ = _
              simp only [Act.put, sA_, sB_, sC_, i64_w, i32_w]
              rfl
             refine pure_ (i := 10) (N := some 5) (v := ?_) (a' := ?_) #[true, true, true, true, true, true, true, true, true, true, true] rfl rfl (any_of HT_.out (by kernel_rfl)) (fun _ _ _ h => h) (Or.inl ⟨by rfl, ?_⟩) ?_ ?_
             rotate_left
             ·intro w'
              go_simp
              with_reducible rfl
             rotate_left
             ·simp only [Act.put, sA_, sB_, sC_, i64_w, i32_w]
              rfl
             refine done_ (done_of HT_.out (by kernel_rfl)) ?_
             try go_wp2
             go_roundg k2
             case measure => have := HK1.out; have := HK2.out; omega
             case rel => exact ⟨(y256), (wrap64 (x50_2 + 1)), kz5_4, H', ⟨by have := HK1.out; have := HK2.out; omega⟩, ⟨by (with_reducible repeat (first | apply Kd.R_alloc | apply Kd.R_drewN | apply Kd.R_drew)); exact Kd.R_mono HO258.out (fun _ hk => trivial)⟩, ⟨by repeat (first | (with_reducible first | exact HB.out | apply below_alloc | apply pw_below_drewN | apply below_drew1) | exact HB.out)⟩⟩
            ·rw [if_neg c27] at H
             exact absurd H (by simp)
           ·rw [if_neg c25] at H
            exact absurd H (by simp)
         ·rw [if_neg c14] at H
          exact absurd H (by simp)
        ·rw [if_neg c13] at H
         exact absurd H (by simp)
       ·rw [if_neg c12] at H
        have c12b0 : decide (x50_2 < (l0.length : Int)) = false := decide_eq_false c12
        clear c12
        simp only [Option.some.injEq, Prod.mk.injEq] at H
        obtain ⟨rfl, rfl⟩ := H
        go_wp2
        go_ret2
        exact ⟨_, by first | rfl | (simp [errW_none, errW_some] <;> rfl) | (simp [*, errW_none, errW_some] <;> rfl), by (with_reducible repeat (first | apply Kd.R_alloc | apply Kd.R_drewN | apply Kd.R_drew)); exact HO_5.out, by repeat (first | (with_reducible first | exact HB.out | apply below_alloc | apply pw_below_drewN | apply below_drew1) | exact HB.out)⟩

/-! ### tumbrelref01_two: function 73 -/
def tumbrelref01_two.f (a0 : Int) : Option (List Int) := some (([(a0 / 256) % 256, (a0) % 256] : List Int))
set_option maxHeartbeats 8000000 in
set_option maxRecDepth 100000 in
theorem tumbrelref01_two.calls (a0 : Int) (r : List Int) (w : World) (h : tumbrelref01_two.f a0 = some r) :
  Calls Try.prog 73 #[.int .u16 a0] w fun e w' => ∃ v0_ : Value, e = .returned (v0_) ∧ Kd.R (Kd.int .u8) 5 w' w.heap.size (fun _ => True) v0_ r ∧ Below w.heap.size w w' := by
 have HB := Aside0.mk (Below.refl w.heap.size w)
 have H : (some (([(a0 / 256) % 256, (a0) % 256] : List Int))) = some r := h
 clear h
 obtain ⟨y259, hy259⟩ : ∃ y_ : List Int, y_ = (([(a0 / 256) % 256, (a0) % 256] : List Int)) := ⟨_, rfl⟩
 replace H : (some y259) = some r := by first | (rw [hy259]; with_reducible exact H) | (have H2_ := (Option.bind_some _ _).symm.trans H; rw [hy259]; with_reducible exact H2_) | (have H2_ := (Option.bind_some _ _).symm.trans H; with_reducible exact H2_) | with_reducible exact H | (rw [hy259]; exact H) | exact H
 have Ny259 := Aside0.mk hy259
 clear hy259
 obtain rfl := Option.some.inj H
 go_enter Try.func73, Try.ntmps73
 go_wp2_with (first | ((with_reducible refine gate_dst (N := 8) rfl ?_); refine Kd.R_lit (Kd.int .u8) _ 5 ?hg (N := 8) ?hd (xs := ([(a0 / 256) % 256, (a0) % 256] : List Int)) (inner := [.int .u8 ((a0 / 256) % 256), .int .u8 ((a0) % 256)]) (ok := fun _ => True) (okp := fun _ => True) ?hr ?hp (fun _ hk => hk) trivial (Below.refl _ _) (Nat.le_refl _) (by simp) ?_; (case hd => rfl); (case hg => rfl); (case hr => first | (go_simp; done) | (go_simp; rfl)); (case hp => exact (Reps.one (show Kd.M (Kd.int .u8) _ _ _ ((a0 / 256) % 256) [.int .u8 ((a0 / 256) % 256)] from rfl) (Reps.one (show Kd.M (Kd.int .u8) _ _ _ ((a0) % 256) [.int .u8 ((a0) % 256)] from rfl) (Reps.none _ _)))); intro v260 w2 ho3 hb hg_ hnew_; clear hg_ hnew_; (first | rw [← Ny259.out] at ho3 | (simp only [Int.reduceToNat] at ho3; rw [← Ny259.out] at ho3)); have n0_ := Aside0.mk (Kd.R_lower ho3 (below_size kz5_1)); have n1_ := Aside0.mk (below_step kz5_1 hb); clear HB; have HO261 := n0_; have HB := n1_; clear n0_ n1_; clear hb ho3))
 go_ret
 exact ⟨_, by first | rfl | (simp [errW_none, errW_some] <;> rfl) | (simp [*, errW_none, errW_some] <;> rfl), by (with_reducible repeat (first | apply Kd.R_alloc | apply Kd.R_drewN | apply Kd.R_drew)); exact HO261.out, by repeat (first | (with_reducible first | exact HB.out | apply below_alloc | apply pw_below_drewN | apply below_drew1) | exact HB.out)⟩

end Go.Proofs.Ytdglbiafpofeeaa.POutboxEncodes
