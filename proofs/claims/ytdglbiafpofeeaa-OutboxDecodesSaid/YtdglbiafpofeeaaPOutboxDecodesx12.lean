-- Written by fprint.py (wip), by way of the printer's functions; where they are turned, by texts of mine.
import Derived.Test.YtdglbiafpofeeaaPOutboxDecodesx0
import Derived.Test.YtdglbiafpofeeaaPOutboxDecodesx11
namespace Go.Proofs.Ytdglbiafpofeeaa.POutboxDecodes
open Go.RowKit Go.Proofs.YtdglbiafpofeeaaW.PrintWords Go.Proofs.YtdglbiafpofeeaaW.PrintLast Go.Proofs.YtdglbiafpofeeaaW.PrintMore
attribute [local go_sem] max2_int min2_int max_two min_two max_three min_three max_four min_four   -- for this text's walks alone
set_option linter.unusedVariables false
set_option linter.unusedSimpArgs false
theorem kz12_1 {p_ : Prop} (h_ : p_ := by repeat (first | (with_reducible first | exact HB.out | apply below_alloc | apply pw_below_drewN | apply below_drew1) | exact HB.out)) : p_ := h_
theorem kz12_2 {p_ : Prop} (h_ : p_ := by repeat (first | (with_reducible first | exact HB.out | apply below_alloc | apply pw_below_drewN | apply below_drew1 | refine below_set ?_ GE409.out) | exact HB.out)) : p_ := h_
theorem kz12_3 {p_ : Prop} (h_ : p_ := by (try simp only [List.map_toArray, List.map_cons, List.map_nil]); first | done | rfl | (simp only [List.length_drop, List.length_take]; rfl)) : p_ := h_
theorem kz12_4 {p_ : Prop} (h_ : p_ := by (with_reducible repeat (first | apply Kd.R_alloc | apply Kd.R_drewN | apply Kd.R_drew)); exact HO_7.out) : p_ := h_
theorem kz12_5 {p_ : Prop} (h_ : p_ := by (with_reducible repeat (first | apply Kd.V_alloc | apply Kd.V_drewN | apply Kd.V_drew)); exact HO_0.out) : p_ := h_
theorem kz12_6 {p_ : Prop} (h_ : p_ := by (with_reducible repeat (first | refine blk_drewN ?_ _ | refine blk_drew ?_ | refine blk_alloc ?_ _)); exact BK409.out) : p_ := h_
theorem kz12_7 {p_ : Prop} (h_ : p_ := by first | (with_reducible assumption) | assumption) : p_ := h_
theorem kz12_8 {p_ : Prop} (h_ : p_ := by rw [hw]; exact (by (with_reducible repeat (first | refine blk_drewN ?_ _ | refine blk_drew ?_ | refine blk_alloc ?_ _)); refine blk_put (cs := #[.bool false, .int .i64 0, .string (⟨#[]⟩ : ByteArray)]) ?_ 0 _ rfl; (with_reducible repeat (first | refine blk_drewN ?_ _ | refine blk_drew ?_ | refine blk_alloc ?_ _)); exact BK409.out)) : p_ := h_
theorem kz12_9 {p_ : Prop} (h_ : p_ := by rw [hw]; exact (by (with_reducible repeat (first | apply Kd.V_alloc | apply Kd.V_drewN | apply Kd.V_drew)); exact Kd.V_mono (Kd.V_far (p := ⟨gb409, 0, none⟩) (Kd.V_mono HO_0.out (fun k_ hk => (⟨hk, hk.2⟩ : _ ∧ k_ ≠ gb409))) (fun _ hk => hk.2) (.bool true)) (fun _ hk => ⟨hk.1.1.1, ⟨hk.1.1.2, hk.1.2⟩⟩))) : p_ := h_
theorem kz12_10 {p_ : Prop} (h_ : p_ := by rw [hw]; exact (by (with_reducible repeat (first | apply Kd.R_alloc | apply Kd.R_drewN | apply Kd.R_drew)); exact Kd.R_mono (Kd.R_far (p := ⟨gb409, 0, none⟩) (Kd.R_mono HO_7.out (fun k_ hk => (⟨hk, hk.2⟩ : _ ∧ k_ ≠ gb409))) (fun _ hk => hk.2) (.bool true)) (fun _ hk => ⟨hk.1.1, hk.1.2⟩))) : p_ := h_
theorem kz12_11 {p_ : Prop} (h_ : p_ := by first | rfl | (simp; done) | (simp [*]; done)) : p_ := h_

/-! ### tumbrelref01_TakeText: function 81 -/
def tumbrelref01_TakeText.f (k : Nat) (l0 : List Int) : Option (ByteArray × Int × Int) := (tumbrelref01_TakeNumber.f k l0).bind fun bt394 => (if bt394.2.2 = 0 then (if bt394.1 < 0 then (some ((⟨#[]⟩ : ByteArray), 0, 2)) else (if bt394.1 > (wrap64 ((l0.length : Int) - bt394.2.1)) then (some ((⟨#[]⟩ : ByteArray), 0, 5)) else (if 0 ≤ bt394.2.1 then (if bt394.2.1 ≤ (wrap64 (bt394.2.1 + bt394.1)) then (if (wrap64 (bt394.2.1 + bt394.1)) ≤ (l0.length : Int) then (some (strOfNums ((l0.take ((wrap64 (bt394.2.1 + bt394.1)) : Int).toNat).drop (bt394.2.1 : Int).toNat), wrap64 (bt394.2.1 + bt394.1), 0)) else (none)) else (none)) else (none)))) else (some ((⟨#[]⟩ : ByteArray), 0, bt394.2.2)))
theorem tumbrelref01_TakeText.mono : ∀ a0 k, LeO (tumbrelref01_TakeText.f k a0) (tumbrelref01_TakeText.f (k + 1) a0) := by
 intro a0 k
 unfold tumbrelref01_TakeText.f
 repeat' first
   | (with_reducible exact tumbrelref01_TakeNumber.mono _ _)
   | (with_reducible exact LeO.refl _)
   | (with_reducible exact LeO.none _)
   | (with_reducible refine LeO.ite ?_ ?_)
   | (with_reducible refine LeO.bind ?_ (fun _ => ?_))
   | exact tumbrelref01_TakeNumber.mono _ _
   | exact LeO.none _
   | refine LeO.ite ?_ ?_
   | refine LeO.bind ?_ (fun _ => ?_)
set_option maxHeartbeats 8000000 in
set_option maxRecDepth 100000 in
theorem tumbrelref01_TakeText.calls (k : Nat) (A0 : Option Addr) (c0 : Nat) (l0 : List Int) (r1 : ByteArray) (r2 : Int) (r3 : Int) (w : World) (hr0 : Kd.C (Kd.int .u8) w A0 l0.length l0) (hc0 : l0.length ≤ c0) (h : tumbrelref01_TakeText.f k l0 = some (r1, r2, r3)) :
  Calls Try.prog 81 #[.slice A0 l0.length c0] w fun e w' => e = .returned (.tuple #[.string r1, .int .i64 r2, .int .i64 r3]) ∧ Below w.heap.size w w' := by
 have HR0 := Aside0.mk hr0
 have HC0 := Aside0.mk hc0
 clear hr0 hc0
 have HB := Aside0.mk (Below.refl w.heap.size w)
 have H : ((tumbrelref01_TakeNumber.f k l0).bind fun bt394 => (if bt394.2.2 = 0 then (if bt394.1 < 0 then (some ((⟨#[]⟩ : ByteArray), 0, 2)) else (if bt394.1 > (wrap64 ((l0.length : Int) - bt394.2.1)) then (some ((⟨#[]⟩ : ByteArray), 0, 5)) else (if 0 ≤ bt394.2.1 then (if bt394.2.1 ≤ (wrap64 (bt394.2.1 + bt394.1)) then (if (wrap64 (bt394.2.1 + bt394.1)) ≤ (l0.length : Int) then (some (strOfNums ((l0.take ((wrap64 (bt394.2.1 + bt394.1)) : Int).toNat).drop (bt394.2.1 : Int).toNat), wrap64 (bt394.2.1 + bt394.1), 0)) else (none)) else (none)) else (none)))) else (some ((⟨#[]⟩ : ByteArray), 0, bt394.2.2)))) = some (r1, r2, r3) := h
 clear h
 replace H := Option.bind_eq_some_iff.mp H
 obtain ⟨⟨t394, t395, t396⟩, A20, H⟩ := H
 replace H : (if t396 = 0 then (if t394 < 0 then (some ((⟨#[]⟩ : ByteArray), 0, 2)) else (if t394 > (wrap64 ((l0.length : Int) - t395)) then (some ((⟨#[]⟩ : ByteArray), 0, 5)) else (if 0 ≤ t395 then (if t395 ≤ (wrap64 (t395 + t394)) then (if (wrap64 (t395 + t394)) ≤ (l0.length : Int) then (some (strOfNums ((l0.take ((wrap64 (t395 + t394)) : Int).toNat).drop (t395 : Int).toNat), wrap64 (t395 + t394), 0)) else (none)) else (none)) else (none)))) else (some ((⟨#[]⟩ : ByteArray), 0, t396))) = some (r1, r2, r3) := H
 have A2 := Aside0.mk A20
 clear A20
 by_cases c3 : t396 = 0
 ·rw [if_pos c3] at H
  have c3b0 : (t396 == 0) = true := beq_iff_eq.mpr c3
  have c3b1 : (t396 != 0) = false := bne_eq_false_iff_eq.mpr c3
  clear c3
  by_cases c4 : t394 < 0
  ·rw [if_pos c4] at H
   have c4b0 : decide (t394 < 0) = true := decide_eq_true c4
   clear c4
   simp only [Option.some.injEq, Prod.mk.injEq] at H
   obtain ⟨rfl, rfl, rfl⟩ := H
   go_enter Try.func81, Try.ntmps81
   go_wp2_with (first | ((with_reducible refine gate_callee (f := 80) rfl ?_); refine goesL_ (some 10) rfl rfl Try.func80 (by kernel_rfl) rfl #[.slice A0 l0.length c0] rfl kz12_3 ?_; (with_reducible refine (tumbrelref01_TakeNumber.calls k _ _ l0 t394 t395 t396 _ ?side1 ?side2 A2.out).mono ?_); (case side1 => repeat (first | exact HR0.out | (with_reducible refine Kd.C_alloc ?_ _) | (with_reducible refine Kd.C_drewN ?_ _) | (with_reducible refine Kd.C_drew ?_))); (case side2 => exact HC0.out); rintro e w5 ⟨rfl, hb⟩; refine ⟨_, rfl, ?_⟩; have n0_ := Aside0.mk (below_step kz12_1 hb); clear HB; have HB := n0_; clear n0_; (try clear hb); (try clear hb2); (try clear hk); (try clear hi)))
   go_ret3
   exact ⟨by first | rfl | (simp [errW_none, errW_some] <;> rfl) | (simp [*, errW_none, errW_some] <;> rfl), by repeat (first | (with_reducible first | exact HB.out | apply below_alloc | apply pw_below_drewN | apply below_drew1) | exact HB.out)⟩
  ·rw [if_neg c4] at H
   have c4b0 : decide (t394 < 0) = false := decide_eq_false c4
   clear c4
   by_cases c6 : t394 > (wrap64 ((l0.length : Int) - t395))
   ·rw [if_pos c6] at H
    have c6b0 : decide ((wrap64 ((l0.length : Int) - t395)) < t394) = true := decide_eq_true c6
    clear c6
    simp only [Option.some.injEq, Prod.mk.injEq] at H
    obtain ⟨rfl, rfl, rfl⟩ := H
    go_enter Try.func81, Try.ntmps81
    go_wp2_with (first | ((with_reducible refine gate_callee (f := 80) rfl ?_); refine goesL_ (some 10) rfl rfl Try.func80 (by kernel_rfl) rfl #[.slice A0 l0.length c0] rfl kz12_3 ?_; (with_reducible refine (tumbrelref01_TakeNumber.calls k _ _ l0 t394 t395 t396 _ ?side1 ?side2 A2.out).mono ?_); (case side1 => repeat (first | exact HR0.out | (with_reducible refine Kd.C_alloc ?_ _) | (with_reducible refine Kd.C_drewN ?_ _) | (with_reducible refine Kd.C_drew ?_))); (case side2 => exact HC0.out); rintro e w7 ⟨rfl, hb⟩; refine ⟨_, rfl, ?_⟩; have n0_ := Aside0.mk (below_step kz12_1 hb); clear HB; have HB := n0_; clear n0_; (try clear hb); (try clear hb2); (try clear hk); (try clear hi)))
    go_ret3
    exact ⟨by first | rfl | (simp [errW_none, errW_some] <;> rfl) | (simp [*, errW_none, errW_some] <;> rfl), by repeat (first | (with_reducible first | exact HB.out | apply below_alloc | apply pw_below_drewN | apply below_drew1) | exact HB.out)⟩
   ·rw [if_neg c6] at H
    have c6b0 : decide ((wrap64 ((l0.length : Int) - t395)) < t394) = false := decide_eq_false c6
    clear c6
    by_cases c8 : 0 ≤ t395
    ·rw [if_pos c8] at H
     have c8b0 := eq_true c8
     have c8b1 : decide (0 ≤ t395) = true := decide_eq_true c8
     clear c8
     by_cases c9 : t395 ≤ (wrap64 (t395 + t394))
     ·rw [if_pos c9] at H
      have c9b0 := eq_true c9
      have c9b1 : decide (t395 ≤ (wrap64 (t395 + t394))) = true := decide_eq_true c9
      by_cases c10 : (wrap64 (t395 + t394)) ≤ (l0.length : Int)
      ·rw [if_pos c10] at H
       have c10b0 := eq_true c10
       have c10b1 : decide ((wrap64 (t395 + t394)) ≤ (l0.length : Int)) = true := decide_eq_true c10
       obtain ⟨y397, hy397⟩ : ∃ y_ : List Int, y_ = ((l0.take ((wrap64 (t395 + t394)) : Int).toNat).drop (t395 : Int).toNat) := ⟨_, rfl⟩
       replace H : (some (strOfNums y397, wrap64 (t395 + t394), 0)) = some (r1, r2, r3) := by first | (rw [hy397]; with_reducible exact H) | (have H2_ := (Option.bind_some _ _).symm.trans H; rw [hy397]; with_reducible exact H2_) | (have H2_ := (Option.bind_some _ _).symm.trans H; with_reducible exact H2_) | with_reducible exact H | (rw [hy397]; exact H) | exact H
       have Ny397 := Aside0.mk hy397
       clear hy397
       simp only [Option.some.injEq, Prod.mk.injEq] at H
       obtain ⟨rfl, rfl, rfl⟩ := H
       go_enter Try.func81, Try.ntmps81
       go_wp2_with (first | ((with_reducible refine gate_callee (f := 80) rfl ?_); refine goesL_ (some 10) rfl rfl Try.func80 (by kernel_rfl) rfl #[.slice A0 l0.length c0] rfl kz12_3 ?_; (with_reducible refine (tumbrelref01_TakeNumber.calls k _ _ l0 t394 t395 t396 _ ?side1 ?side2 A2.out).mono ?_); (case side1 => repeat (first | exact HR0.out | (with_reducible refine Kd.C_alloc ?_ _) | (with_reducible refine Kd.C_drewN ?_ _) | (with_reducible refine Kd.C_drew ?_))); (case side2 => exact HC0.out); rintro e w11 ⟨rfl, hb⟩; refine ⟨_, rfl, ?_⟩; have n0_ := Aside0.mk (below_step kz12_1 hb); clear HB; have HB := n0_; clear n0_; (try clear hb); (try clear hb2); (try clear hk); (try clear hi); have q12 : ((wrap64 (t395 + t394)) : Int) ≤ ((l0.length : Int) : Int) := of_decide_eq_true kz12_7; obtain ⟨i012, hi012, _, hsz12, _⟩ := info_parts info5; have hroom12 : l0.length ≤ c0 := HC0.out; have hC12 : Kd.C (Kd.int .u8) _ A0 l0.length l0 := HR0.out; have ql12 : (t395 : Int) ≤ ((wrap64 (t395 + t394)) : Int) := of_decide_eq_true kz12_7; have q012 : (0 : Int) ≤ (t395 : Int) := of_decide_eq_true kz12_7; have hcut12 := cut_mid (P := Try.prog) 50 5 .i64 .i64 Try.underlying50 hi012 1 hsz12 A0 l0.length c0 t395 (wrap64 (t395 + t394)) q012 ql12 q12 hroom12; have hr12 := Kd.C_mid (lo := (t395 : Int).toNat) (hi := ((wrap64 (t395 + t394)) : Int).toNat) (c := c0) hC12 (by omega) (by omega) hroom12; obtain ⟨A12, hA12⟩ : ∃ A1, A1 = (if c0 = (t395 : Int).toNat then A0 else (A0 : Option Addr).map (·.add ((t395 : Int).toNat * 1))) := ⟨_, rfl⟩; obtain ⟨c12, hc12⟩ : ∃ c1, c1 = c0 - (t395 : Int).toNat := ⟨_, rfl⟩; have hy12 : y397.length = ((wrap64 (t395 + t394)) : Int).toNat - (t395 : Int).toNat := (by rw [Ny397.out, List.length_drop, List.length_take] <;> omega); rw [show ((l0).take ((wrap64 (t395 + t394)) : Int).toNat).drop (t395 : Int).toNat = y397 from Ny397.out.symm] at hr12; replace hr12 : Kd.C (Kd.int .u8) _ A12 y397.length y397 := (by rw [hA12]; exact hr12); rw [← hy12, ← hA12, ← hc12] at hcut12; have HR400 := Aside0.mk hr12; have HC400 := Aside0.mk (show y397.length ≤ c12 from by rw [hy12, hc12]; exact Nat.sub_le_sub_right (Nat.le_trans (by omega) hroom12) _); clear hr12 hC12 hroom12 hi012 hsz12 hc12; have KY12 := Aside0.mk hy12; have KA12 := Aside0.mk hA12; clear hy12 hA12; replace q12 := eq_true q12; have hcv13 := Kd.C_string (P := Try.prog) (A := A12) (c := c12) Try.underlying50 Try.underlying5 Try.underlying9 (Kd.C_below HR400.out HB.out); have hcvd13 := fun m_ => Kd.C_string (P := Try.prog) (A := A12) (c := c12) Try.underlying50 Try.underlying5 Try.underlying9 (Kd.C_drewN ((Kd.C_below HR400.out HB.out)) m_)))
       go_ret3
       exact ⟨by first | rfl | (simp [errW_none, errW_some] <;> rfl) | (simp [*, errW_none, errW_some] <;> rfl), by repeat (first | (with_reducible first | exact HB.out | apply below_alloc | apply pw_below_drewN | apply below_drew1) | exact HB.out)⟩
      ·rw [if_neg c10] at H
       exact absurd H (by simp)
     ·rw [if_neg c9] at H
      exact absurd H (by simp)
    ·rw [if_neg c8] at H
     exact absurd H (by simp)
 ·rw [if_neg c3] at H
  have c3b0 : (t396 == 0) = false := beq_eq_false_iff_ne.mpr c3
  have c3b1 : (t396 != 0) = true := bne_iff_ne.mpr c3
  simp only [Option.some.injEq, Prod.mk.injEq] at H
  obtain ⟨rfl, rfl, rfl⟩ := H
  go_enter Try.func81, Try.ntmps81
  go_wp2_with (first | ((with_reducible refine gate_callee (f := 80) rfl ?_); refine goesL_ (some 10) rfl rfl Try.func80 (by kernel_rfl) rfl #[.slice A0 l0.length c0] rfl kz12_3 ?_; (with_reducible refine (tumbrelref01_TakeNumber.calls k _ _ l0 t394 t395 t396 _ ?side1 ?side2 A2.out).mono ?_); (case side1 => repeat (first | exact HR0.out | (with_reducible refine Kd.C_alloc ?_ _) | (with_reducible refine Kd.C_drewN ?_ _) | (with_reducible refine Kd.C_drew ?_))); (case side2 => exact HC0.out); rintro e w14 ⟨rfl, hb⟩; refine ⟨_, rfl, ?_⟩; have n0_ := Aside0.mk (below_step kz12_1 hb); clear HB; have HB := n0_; clear n0_; (try clear hb); (try clear hb2); (try clear hk); (try clear hi)))
  go_ret3
  exact ⟨by first | rfl | (simp [errW_none, errW_some] <;> rfl) | (simp [*, errW_none, errW_some] <;> rfl), by repeat (first | (with_reducible first | exact HB.out | apply below_alloc | apply pw_below_drewN | apply below_drew1) | exact HB.out)⟩

/-! ### tumbrelref01_Read: function 65 -/
mutual
def tumbrelref01_Read.j0 : Nat → List Int → Int → Int → Bool → Option ((List (S117)) × Int)
 | 0, _, _, _, _ => none
 | k + 1, x0, x4, x5, x24 => if x24 = true then (some (([] : List (S117)), 2)) else (if 0 ≤ x5 then (if x5 ≤ (x0.length : Int) then (tumbrelref01_Read.l0 k (x0.drop (x5 : Int).toNat) ([] : List (S117)) x4 0) else (none)) else (none))
def tumbrelref01_Read.l0 : Nat → List Int → List (S117) → Int → Int → Option ((List (S117)) × Int)
 | 0, _, _, _, _ => none
 | k + 1, x0, x7, x28, x29 => if x29 < x28 then (if (x0.length : Int) = 0 then (some (([] : List (S117)), 2)) else (if 0 < (x0.length : Int) then (if (rd x0 0) = 1 then (if 1 ≤ (x0.length : Int) then ((tumbrelref01_TakeNumber.f k (x0.drop 1)).bind fun bt416 => (if bt416.2.2 = 0 then (if x7.length < 4398046511104 then (if 0 ≤ (wrap64 (1 + bt416.2.1)) then (if (wrap64 (1 + bt416.2.1)) ≤ (x0.length : Int) then (tumbrelref01_Read.l0 k (x0.drop ((wrap64 (1 + bt416.2.1)) : Int).toNat) (x7 ++ [(⟨false, bt416.1, (⟨#[]⟩ : ByteArray)⟩ : S117)]) x28 (wrap64 (x29 + 1))) else (none)) else (none)) else (none)) else (some (([] : List (S117)), 2)))) else (none)) else (if (rd x0 0) = 2 then (if 1 ≤ (x0.length : Int) then ((tumbrelref01_TakeText.f k (x0.drop 1)).bind fun bt432 => (if bt432.2.2 = 0 then (if x7.length < 4398046511104 then (if 0 ≤ (wrap64 (1 + bt432.2.1)) then (if (wrap64 (1 + bt432.2.1)) ≤ (x0.length : Int) then (tumbrelref01_Read.l0 k (x0.drop ((wrap64 (1 + bt432.2.1)) : Int).toNat) (x7 ++ [(⟨true, 0, bt432.1⟩ : S117)]) x28 (wrap64 (x29 + 1))) else (none)) else (none)) else (none)) else (some (([] : List (S117)), 2)))) else (none)) else (some (([] : List (S117)), 2)))) else (none))) else (if (x0.length : Int) > 0 then (some (([] : List (S117)), 2)) else (some (x7, 0)))
end
def tumbrelref01_Read.f (k : Nat) (l0 : List Int) : Option ((List (S117)) × Int) := (tumbrelref01_TakeNumber.f k l0).bind fun bt401 => (if bt401.2.2 = 0 then (if bt401.1 < 0 then (tumbrelref01_Read.j0 k l0 bt401.1 bt401.2.1 true) else (tumbrelref01_Read.j0 k l0 bt401.1 bt401.2.1 (decide (bt401.1 > 4000)))) else (tumbrelref01_Read.j0 k l0 bt401.1 bt401.2.1 true))
theorem tumbrelref01_Read.mono_l : ∀ k, (∀ y0 y1 y2 y3, LeO (tumbrelref01_Read.j0 k y0 y1 y2 y3) (tumbrelref01_Read.j0 (k + 1) y0 y1 y2 y3)) ∧ (∀ y0 y1 y2 y3, LeO (tumbrelref01_Read.l0 k y0 y1 y2 y3) (tumbrelref01_Read.l0 (k + 1) y0 y1 y2 y3))
 | 0 => ⟨fun _ _ _ _ r h => by simp [tumbrelref01_Read.j0] at h, fun _ _ _ _ r h => by simp [tumbrelref01_Read.l0] at h⟩
 | k + 1 => by
  obtain ⟨ih0, ih1⟩ := tumbrelref01_Read.mono_l k
  refine ⟨?_, ?_⟩
  ·intro y0 y1 y2 y3
   unfold tumbrelref01_Read.j0
   repeat' first
   | (with_reducible exact ih0 _ _ _ _)
   | (with_reducible exact ih1 _ _ _ _)
   | (with_reducible exact tumbrelref01_TakeNumber.mono _ _)
   | (with_reducible exact tumbrelref01_TakeText.mono _ _)
   | (with_reducible exact LeO.refl _)
   | (with_reducible exact LeO.none _)
   | (with_reducible refine LeO.ite ?_ ?_)
   | (with_reducible refine LeO.bind ?_ (fun _ => ?_))
   | exact ih0 _ _ _ _
   | exact ih1 _ _ _ _
   | exact tumbrelref01_TakeNumber.mono _ _
   | exact tumbrelref01_TakeText.mono _ _
   | exact LeO.none _
   | refine LeO.ite ?_ ?_
   | refine LeO.bind ?_ (fun _ => ?_)
  ·intro y0 y1 y2 y3
   unfold tumbrelref01_Read.l0
   repeat' first
   | (with_reducible exact ih0 _ _ _ _)
   | (with_reducible exact ih1 _ _ _ _)
   | (with_reducible exact tumbrelref01_TakeNumber.mono _ _)
   | (with_reducible exact tumbrelref01_TakeText.mono _ _)
   | (with_reducible exact LeO.refl _)
   | (with_reducible exact LeO.none _)
   | (with_reducible refine LeO.ite ?_ ?_)
   | (with_reducible refine LeO.bind ?_ (fun _ => ?_))
   | exact ih0 _ _ _ _
   | exact ih1 _ _ _ _
   | exact tumbrelref01_TakeNumber.mono _ _
   | exact tumbrelref01_TakeText.mono _ _
   | exact LeO.none _
   | refine LeO.ite ?_ ?_
   | refine LeO.bind ?_ (fun _ => ?_)
theorem tumbrelref01_Read.mono : ∀ a0 k, LeO (tumbrelref01_Read.f k a0) (tumbrelref01_Read.f (k + 1) a0) := by
 intro a0 k
 obtain ⟨ih0, ih1⟩ := tumbrelref01_Read.mono_l k
 unfold tumbrelref01_Read.f
 repeat' first
   | (with_reducible exact ih0 _ _ _ _)
   | (with_reducible exact ih1 _ _ _ _)
   | (with_reducible exact tumbrelref01_TakeNumber.mono _ _)
   | (with_reducible exact tumbrelref01_TakeText.mono _ _)
   | (with_reducible exact LeO.refl _)
   | (with_reducible exact LeO.none _)
   | (with_reducible refine LeO.ite ?_ ?_)
   | (with_reducible refine LeO.bind ?_ (fun _ => ?_))
   | exact ih0 _ _ _ _
   | exact ih1 _ _ _ _
   | exact tumbrelref01_TakeNumber.mono _ _
   | exact tumbrelref01_TakeText.mono _ _
   | exact LeO.none _
   | refine LeO.ite ?_ ?_
   | refine LeO.bind ?_ (fun _ => ?_)
def tumbrelref01_Read.T20 : Bool × List (List Nat × List Nat) := (true, [([], []), ([], []), ([1], [1]), ([0, 2], [0, 2]), ([], []), ([], []), ([5], [5]), ([4, 6], [4, 6]), ([3, 3, 0, 1, 2, 3], [0, 3]), ([7, 8, 0, 1, 2, 3, 4, 5, 6, 7, 8], [4, 7])])
def tumbrelref01_Read.B20 : List Nat := [0, 0, 2, 7, 0, 0, 32, 112, 15, 511]
theorem tumbrelref01_Read.tab20 : rtab .any (opsOf Try.f65 20) = tumbrelref01_Read.T20 := by kernel_rfl
theorem tumbrelref01_Read.bits20 : waitsOk tumbrelref01_Read.T20.2 tumbrelref01_Read.B20 = true := by kernel_rfl
set_option maxHeartbeats 8000000 in
set_option maxRecDepth 100000 in
theorem tumbrelref01_Read.calls (k : Nat) (P0_ : Nat → Prop) (A0 : Option Addr) (c0 : Nat) (l0 : List Int) (r1 : List (S117)) (r2 : Int) (w : World) (hs0 : Kd.V (Kd.int .u8) 5 w w.heap.size (fun k_ => P0_ k_) (.slice A0 l0.length c0) l0) (h : tumbrelref01_Read.f k l0 = some (r1, r2)) :
  Calls Try.prog 65 #[.slice A0 l0.length c0] w fun e w' => ∃ v0_ : Value, e = .returned (.tuple #[v0_, .int .i64 r2]) ∧ Kd.R k117 117 w' w.heap.size (fun k_ => (w.heap.size ≤ k_)) v0_ r1 ∧ Below w.heap.size w w' := by
 have hu117 := Try.underlying117
 have HO0 := Aside0.mk (show Kd.V (Kd.int .u8) 5 w w.heap.size (fun k_ => (P0_ k_ ∨ w.heap.size ≤ k_)) (.slice A0 l0.length c0) l0 from Kd.V_mono hs0 (fun k_ hk => .inl hk))
 have HB := Aside0.mk (Below.refl w.heap.size w)
 have H : ((tumbrelref01_TakeNumber.f k l0).bind fun bt401 => (if bt401.2.2 = 0 then (if bt401.1 < 0 then (tumbrelref01_Read.j0 k l0 bt401.1 bt401.2.1 true) else (tumbrelref01_Read.j0 k l0 bt401.1 bt401.2.1 (decide (bt401.1 > 4000)))) else (tumbrelref01_Read.j0 k l0 bt401.1 bt401.2.1 true))) = some (r1, r2) := h
 clear h
 replace H := Option.bind_eq_some_iff.mp H
 obtain ⟨⟨t401, t402, t403⟩, A20, H⟩ := H
 replace H : (if t403 = 0 then (if t401 < 0 then (tumbrelref01_Read.j0 k l0 t401 t402 true) else (tumbrelref01_Read.j0 k l0 t401 t402 (decide (t401 > 4000)))) else (tumbrelref01_Read.j0 k l0 t401 t402 true)) = some (r1, r2) := H
 have A2 := Aside0.mk A20
 clear A20
 have HC3 := Aside0.mk H
 clear H
 go_enter Try.func65, Try.ntmps65
 go_upto_region 2 with (first | ((with_reducible refine gate_callee (f := 80) rfl ?_); refine goesL_ (some 11) rfl rfl Try.func80 (by kernel_rfl) rfl #[.slice A0 l0.length c0] rfl kz12_3 ?_; (with_reducible refine (tumbrelref01_TakeNumber.calls k _ _ l0 t401 t402 t403 _ ?side1 ?side2 A2.out).mono ?_); (case side1 => repeat (first | exact (Kd.V_reads' HO0.out).2.2 | (with_reducible refine Kd.C_alloc ?_ _) | (with_reducible refine Kd.C_drewN ?_ _) | (with_reducible refine Kd.C_drew ?_))); (case side2 => exact (Kd.V_reads' HO0.out).2.1); rintro e w4 ⟨rfl, hb⟩; refine ⟨_, rfl, ?_⟩; have n0_ := Aside0.mk (Kd.V_below (by (with_reducible repeat (first | apply Kd.V_alloc | apply Kd.V_drewN | apply Kd.V_drew)); exact HO0.out) hb); have n1_ := Aside0.mk (below_step kz12_1 hb); clear HO0; clear HB; have HO0 := n0_; have HB := n1_; clear n0_ n1_; (try clear hb); (try clear hb2); (try clear hk); (try clear hi)))
 (try simp only [Act.put, sA_, sB_, sC_])
 go_cut [24] (fun v24 wc => ∃ (kq : Nat) (x24_2 : Bool), v24 = .bool x24_2 ∧ Aside0 (tumbrelref01_Read.j0 kq l0 t401 t402 x24_2 = some (r1, r2)) ∧ Aside0 (kq ≤ k) ∧ Aside0 (Kd.V (Kd.int .u8) 5 wc w.heap.size (fun k_ => (P0_ k_ ∨ w.heap.size ≤ k_)) (.slice A0 l0.length c0) l0) ∧ Aside0 (Below w.heap.size w wc))
 case first =>
  have H := HC3.out
  clear HC3
  by_cases c5 : t403 = 0
  ·rw [if_pos c5] at H
   have c5b0 : (t403 == 0) = true := beq_iff_eq.mpr c5
   have c5b1 : (t403 != 0) = false := bne_eq_false_iff_eq.mpr c5
   clear c5
   (first | rw [c5b0] | (simp only [i64_w, i32_w]; rw [c5b0]) | skip)
   by_cases c6 : t401 < 0
   ·rw [if_pos c6] at H
    have c6b0 : decide (t401 < 0) = true := decide_eq_true c6
    clear c6
    have H' := Aside0.mk H
    clear H
    go_wp2
    go_meet
    case rel => exact ⟨_, (true), kz12_11, H', ⟨by first | omega | exact Nat.le_refl _⟩, ⟨by (with_reducible repeat (first | apply Kd.V_alloc | apply Kd.V_drewN | apply Kd.V_drew)); exact HO0.out⟩, ⟨by repeat (first | (with_reducible first | exact HB.out | apply below_alloc | apply pw_below_drewN | apply below_drew1) | exact HB.out)⟩⟩
   ·rw [if_neg c6] at H
    have c6b0 : decide (t401 < 0) = false := decide_eq_false c6
    clear c6
    have H' := Aside0.mk H
    clear H
    go_wp2
    go_meet
    case rel => exact ⟨_, (decide (t401 > 4000)), kz12_11, H', ⟨by first | omega | exact Nat.le_refl _⟩, ⟨by (with_reducible repeat (first | apply Kd.V_alloc | apply Kd.V_drewN | apply Kd.V_drew)); exact HO0.out⟩, ⟨by repeat (first | (with_reducible first | exact HB.out | apply below_alloc | apply pw_below_drewN | apply below_drew1) | exact HB.out)⟩⟩
  ·rw [if_neg c5] at H
   have c5b0 : (t403 == 0) = false := beq_eq_false_iff_ne.mpr c5
   have c5b1 : (t403 != 0) = true := bne_iff_ne.mpr c5
   (first | rw [c5b0] | (simp only [i64_w, i32_w]; rw [c5b0]) | skip)
   have H' := Aside0.mk H
   clear H
   go_wp2
   go_meet
   case rel => exact ⟨_, (true), kz12_11, H', ⟨by first | omega | exact Nat.le_refl _⟩, ⟨by (with_reducible repeat (first | apply Kd.V_alloc | apply Kd.V_drewN | apply Kd.V_drew)); exact HO0.out⟩, ⟨by repeat (first | (with_reducible first | exact HB.out | apply below_alloc | apply pw_below_drewN | apply below_drew1) | exact HB.out)⟩⟩
 case rest =>
  clear HC3
  try clear p2
  try clear c5
  try clear c5b0
  try clear c5b1
  try clear c6
  try clear c6b0
  obtain ⟨kq, x24_2, rfl, HA, HJ2, HO_0, HB⟩ := hcut
  cases kq with
  | zero => exact absurd HA.out (by simp [tumbrelref01_Read.j0])
  | succ kj2 =>
   have H := HA.out
   clear HA
   simp only [tumbrelref01_Read.j0] at H
   by_cases c7 : x24_2 = true
   ·subst c7
    have H1 : (some (([] : List (S117)), 2)) = some (r1, r2) := by rw [if_pos rfl] at H; exact H
    clear H
    have H := H1
    clear H1
    simp only [Option.some.injEq, Prod.mk.injEq] at H
    obtain ⟨rfl, rfl⟩ := H
    go_wp2
    go_ret2
    exact ⟨_, by first | rfl | (simp [errW_none, errW_some] <;> rfl) | (simp [*, errW_none, errW_some] <;> rfl), by first | exact Kd.R_nil _ _ _ _ _ | exact Kd.N_nil _ _ _ _ _ | exact Kd.V_nil _ _ _ _ _ | exact Kd.Q_nil _ _ _ _ _ | exact Kd.S_nil _ _ _ _ _, by repeat (first | (with_reducible first | exact HB.out | apply below_alloc | apply pw_below_drewN | apply below_drew1) | exact HB.out)⟩
   ·replace c7 := Bool.eq_false_iff.mpr c7
    subst c7
    have H1 : (if 0 ≤ t402 then (if t402 ≤ (l0.length : Int) then (tumbrelref01_Read.l0 kj2 (l0.drop (t402 : Int).toNat) ([] : List (S117)) t401 0) else (none)) else (none)) = some (r1, r2) := by rw [if_neg (show ¬ (false = true) by decide)] at H; exact H
    clear H
    have H := H1
    clear H1
    by_cases c8 : 0 ≤ t402
    ·rw [if_pos c8] at H
     have c8b0 := eq_true c8
     have c8b1 : decide (0 ≤ t402) = true := decide_eq_true c8
     clear c8
     by_cases c9 : t402 ≤ (l0.length : Int)
     ·rw [if_pos c9] at H
      have c9b0 := eq_true c9
      have c9b1 : decide (t402 ≤ (l0.length : Int)) = true := decide_eq_true c9
      clear c9
      obtain ⟨y404, hy404⟩ : ∃ y_ : List Int, y_ = (l0.drop (t402 : Int).toNat) := ⟨_, rfl⟩
      replace H : (tumbrelref01_Read.l0 kj2 y404 ([] : List (S117)) t401 0) = some (r1, r2) := by first | (rw [hy404]; with_reducible exact H) | (have H2_ := (Option.bind_some _ _).symm.trans H; rw [hy404]; with_reducible exact H2_) | (have H2_ := (Option.bind_some _ _).symm.trans H; with_reducible exact H2_) | with_reducible exact H | (rw [hy404]; exact H) | exact H
      have Ny404 := Aside0.mk hy404
      clear hy404
      have H' := Aside0.mk H
      clear H
      have q10 : (t402 : Int) ≤ ((l0.length : Int) : Int) := of_decide_eq_true kz12_7
      obtain ⟨i010, hi010, _, hsz10, _⟩ := info_parts info5
      have hroom10 : l0.length ≤ c0 := (Kd.V_reads' HO_0.out).2.1
      have hC10 : Kd.F (Kd.int .u8) _ _ A0 l0.length l0 := (Kd.V_at (base := w.heap.size) HO_0.out).2.2
      have q010 : (0 : Int) ≤ (t402 : Int) := of_decide_eq_true kz12_7
      have hcut10 := cut_from (P := Try.prog) 50 5 .i64 Try.underlying50 hi010 1 hsz10 A0 l0.length c0 t402 q010 q10
      have hr10 := Kd.F_cut (m := (t402 : Int).toNat) (c := c0) hC10 (by omega) hroom10
      obtain ⟨A10, hA10⟩ : ∃ A1, A1 = (if c0 = (t402 : Int).toNat then A0 else (A0 : Option Addr).map (·.add ((t402 : Int).toNat * 1))) := ⟨_, rfl⟩
      obtain ⟨c10, hc10⟩ : ∃ c1, c1 = c0 - (t402 : Int).toNat := ⟨_, rfl⟩
      have hy10 : y404.length = l0.length - (t402 : Int).toNat := (by rw [Ny404.out, List.length_drop] <;> omega)
      rw [show (l0).drop (t402 : Int).toNat = y404 from Ny404.out.symm] at hr10
      replace hr10 : Kd.F (Kd.int .u8) _ _ A10 y404.length y404 := (by rw [hA10]; exact hr10)
      rw [← hy10, ← hA10, ← hc10] at hcut10
      have HO408 := Aside0.mk (show Kd.V (Kd.int .u8) 5 _ w.heap.size _ (.slice A10 y404.length c10) y404 from Kd.V_mk (by rw [hy10, hc10]; exact Nat.sub_le_sub_right hroom10 _) hr10)
      have HC408 := Aside0.mk (show y404.length ≤ c10 from by rw [hy10, hc10]; exact Nat.sub_le_sub_right hroom10 _)
      clear hr10 hC10 hroom10 hi010 hsz10 hc10
      have KY10 := Aside0.mk hy10
      have KA10 := Aside0.mk hA10
      clear hy10 hA10
      replace q10 := eq_true q10
      go_wp2
      go_loopg [0, 7, 29] kj2 (fun kq v0 v7 v29 w' => ∃ (x0_2 : List Int) (x7_2 : List (S117)) (x29_2 : Int), v29 = .int .i64 x29_2 ∧ Aside0 (tumbrelref01_Read.l0 kq x0_2 x7_2 t401 x29_2 = some (r1, r2)) ∧ Aside0 (kq ≤ kj2) ∧ Aside0 (Kd.V (Kd.int .u8) 5 w' w.heap.size (fun k_ => (P0_ k_ ∨ w.heap.size ≤ k_) ∧ some k_ ≠ (v7 : Value).ownBlock) v0 x0_2) ∧ Aside0 (Kd.R k117 117 w' w.heap.size (fun k_ => (w.heap.size ≤ k_)) v7 x7_2) ∧ Aside0 (Below w.heap.size w w'))
      case atStart => exact ⟨(y404), (([] : List (S117))), (0), kz12_11, H', ⟨Nat.le_refl _⟩, ⟨by (with_reducible repeat (first | apply Kd.V_alloc | apply Kd.V_drewN | apply Kd.V_drew)); exact Kd.V_mono HO408.out (fun _ hk => ⟨hk, (by simp [Value.ownBlock])⟩)⟩, ⟨by first | exact Kd.R_nil _ _ _ _ _ | exact Kd.N_nil _ _ _ _ _ | exact Kd.V_nil _ _ _ _ _ | exact Kd.Q_nil _ _ _ _ _ | exact Kd.S_nil _ _ _ _ _⟩, ⟨by repeat (first | (with_reducible first | exact HB.out | apply below_alloc | apply pw_below_drewN | apply below_drew1) | exact HB.out)⟩⟩
      case round =>
       clear H'
       try clear c1
       try clear q1
       try clear p2
       try clear c5
       try clear c5b0
       try clear c5b1
       try clear c6
       try clear c6b0
       try clear c7
       try clear c8
       try clear c8b0
       try clear c8b1
       try clear c9
       try clear c9b0
       try clear c9b1
       try clear c10
       try clear q10
       try clear p2
       try clear q010
       try clear q10
       obtain ⟨x0_2, x7_2, x29_2, rfl, HA, HK2, HO_0, HO_7, HB⟩ := hrel
       cases gk with
       | zero => exact absurd HA.out (by simp [tumbrelref01_Read.l0])
       | succ k2 =>
        have H := HA.out
        clear HA
        simp only [tumbrelref01_Read.l0] at H
        by_cases c11 : x29_2 < t401
        ·rw [if_pos c11] at H
         have c11b0 : decide (x29_2 < t401) = true := decide_eq_true c11
         clear c11
         by_cases c12 : (x0_2.length : Int) = 0
         ·rw [if_pos c12] at H
          have c12b0 : ((x0_2.length : Int) == 0) = true := beq_iff_eq.mpr c12
          have c12b1 : ((x0_2.length : Int) != 0) = false := bne_eq_false_iff_eq.mpr c12
          clear c12
          simp only [Option.some.injEq, Prod.mk.injEq] at H
          obtain ⟨rfl, rfl⟩ := H
          obtain ⟨Ao13, co13, eo13⟩ := Kd.V_slice HO_0.out
          subst eo13
          go_wp2
          go_ret2
          exact ⟨_, by first | rfl | (simp [errW_none, errW_some] <;> rfl) | (simp [*, errW_none, errW_some] <;> rfl), by first | exact Kd.R_nil _ _ _ _ _ | exact Kd.N_nil _ _ _ _ _ | exact Kd.V_nil _ _ _ _ _ | exact Kd.Q_nil _ _ _ _ _ | exact Kd.S_nil _ _ _ _ _, by repeat (first | (with_reducible first | exact HB.out | apply below_alloc | apply pw_below_drewN | apply below_drew1) | exact HB.out)⟩
         ·rw [if_neg c12] at H
          have c12b0 : ((x0_2.length : Int) == 0) = false := beq_eq_false_iff_ne.mpr c12
          have c12b1 : ((x0_2.length : Int) != 0) = true := bne_iff_ne.mpr c12
          have c12b2 : ¬ (x0_2 = []) := fun h_ => c12 (by rw [h_]; rfl)
          by_cases c14 : 0 < (x0_2.length : Int)
          ·rw [if_pos c14] at H
           have c14b0 : decide (0 < (x0_2.length : Int)) = true := decide_eq_true c14
           have c14b1 : decide (0 < x0_2.length) = true := decide_eq_true (by omega)
           clear c14
           by_cases c15 : (rd x0_2 0) = 1
           ·rw [if_pos c15] at H
            have c15b0 : ((rd x0_2 0) == 1) = true := beq_iff_eq.mpr c15
            have c15b1 : ((rd x0_2 0) != 1) = false := bne_eq_false_iff_eq.mpr c15
            clear c15
            by_cases c16 : 1 ≤ (x0_2.length : Int)
            ·rw [if_pos c16] at H
             have c16b0 := eq_true c16
             have c16b1 : decide (1 ≤ (x0_2.length : Int)) = true := decide_eq_true c16
             clear c16
             obtain ⟨y411, hy411⟩ : ∃ y_ : List Int, y_ = (x0_2.drop 1) := ⟨_, rfl⟩
             replace H : ((tumbrelref01_TakeNumber.f k2 y411).bind fun bt416 => (if bt416.2.2 = 0 then (if x7_2.length < 4398046511104 then (if 0 ≤ (wrap64 (1 + bt416.2.1)) then (if (wrap64 (1 + bt416.2.1)) ≤ (x0_2.length : Int) then (tumbrelref01_Read.l0 k2 (x0_2.drop ((wrap64 (1 + bt416.2.1)) : Int).toNat) (x7_2 ++ [(⟨false, bt416.1, (⟨#[]⟩ : ByteArray)⟩ : S117)]) t401 (wrap64 (x29_2 + 1))) else (none)) else (none)) else (none)) else (some (([] : List (S117)), 2)))) = some (r1, r2) := by first | (rw [hy411]; with_reducible exact H) | (have H2_ := (Option.bind_some _ _).symm.trans H; rw [hy411]; with_reducible exact H2_) | (have H2_ := (Option.bind_some _ _).symm.trans H; with_reducible exact H2_) | with_reducible exact H | (rw [hy411]; exact H) | exact H
             have Ny411 := Aside0.mk hy411
             clear hy411
             replace H := Option.bind_eq_some_iff.mp H
             obtain ⟨⟨t416, t417, t418⟩, A170, H⟩ := H
             replace H : (if t418 = 0 then (if x7_2.length < 4398046511104 then (if 0 ≤ (wrap64 (1 + t417)) then (if (wrap64 (1 + t417)) ≤ (x0_2.length : Int) then (tumbrelref01_Read.l0 k2 (x0_2.drop ((wrap64 (1 + t417)) : Int).toNat) (x7_2 ++ [(⟨false, t416, (⟨#[]⟩ : ByteArray)⟩ : S117)]) t401 (wrap64 (x29_2 + 1))) else (none)) else (none)) else (none)) else (some (([] : List (S117)), 2))) = some (r1, r2) := H
             have A17 := Aside0.mk A170
             clear A170
             by_cases c18 : t418 = 0
             ·rw [if_pos c18] at H
              have c18b0 : (t418 == 0) = true := beq_iff_eq.mpr c18
              have c18b1 : (t418 != 0) = false := bne_eq_false_iff_eq.mpr c18
              clear c18
              by_cases c19 : x7_2.length < 4398046511104
              ·rw [if_pos c19] at H
               have LMc19 := Aside0.mk c19
               clear c19
               obtain ⟨y419, hy419⟩ : ∃ y_ : List (S117), y_ = (x7_2 ++ [(⟨false, t416, (⟨#[]⟩ : ByteArray)⟩ : S117)]) := ⟨_, rfl⟩
               replace H : (if 0 ≤ (wrap64 (1 + t417)) then (if (wrap64 (1 + t417)) ≤ (x0_2.length : Int) then (tumbrelref01_Read.l0 k2 (x0_2.drop ((wrap64 (1 + t417)) : Int).toNat) y419 t401 (wrap64 (x29_2 + 1))) else (none)) else (none)) = some (r1, r2) := by first | (rw [hy419]; with_reducible exact H) | (have H2_ := (Option.bind_some _ _).symm.trans H; rw [hy419]; with_reducible exact H2_) | (have H2_ := (Option.bind_some _ _).symm.trans H; with_reducible exact H2_) | with_reducible exact H | (rw [hy419]; exact H) | exact H
               have Ny419 := Aside0.mk hy419
               clear hy419
               obtain ⟨ji20, hji20⟩ : ∃ j_ : Int, (wrap64 (1 + t417)) = j_ := ⟨_, rfl⟩
               replace H : (if 0 ≤ (ji20) then (if (ji20) ≤ (x0_2.length : Int) then (tumbrelref01_Read.l0 k2 (x0_2.drop ((ji20) : Int).toNat) y419 t401 (wrap64 (x29_2 + 1))) else (none)) else (none)) = some (r1, r2) := by first | (rw [hji20] at H; exact H) | (simp only [hji20] at H ⊢; exact H)
               (try rw [hji20] at A17)
               have hji20w : (IntKind.i64.wrap (1 + t417)) = ji20 := (i64_w _).trans hji20
               by_cases c21 : 0 ≤ (ji20)
               ·rw [if_pos c21] at H
                have c21b0 := eq_true c21
                have c21b1 : decide (0 ≤ (ji20)) = true := decide_eq_true c21
                clear c21
                by_cases c22 : (ji20) ≤ (x0_2.length : Int)
                ·rw [if_pos c22] at H
                 have c22b0 := eq_true c22
                 have c22b1 : decide ((ji20) ≤ (x0_2.length : Int)) = true := decide_eq_true c22
                 clear c22
                 obtain ⟨y422, hy422⟩ : ∃ y_ : List Int, y_ = (x0_2.drop ((ji20) : Int).toNat) := ⟨_, rfl⟩
                 replace H : (tumbrelref01_Read.l0 k2 y422 y419 t401 (wrap64 (x29_2 + 1))) = some (r1, r2) := by first | (rw [hy422]; with_reducible exact H) | (have H2_ := (Option.bind_some _ _).symm.trans H; rw [hy422]; with_reducible exact H2_) | (have H2_ := (Option.bind_some _ _).symm.trans H; with_reducible exact H2_) | with_reducible exact H | (rw [hy422]; exact H) | exact H
                 have Ny422 := Aside0.mk hy422
                 clear hy422
                 have H' := Aside0.mk H
                 clear H
                 obtain ⟨Ao23, co23, eo23⟩ := Kd.V_slice HO_0.out
                 subst eo23
                 try go_wp2_with (first | ((with_reducible refine gate_dst (N := 8) rfl ?_); refine box_event ?hg (N := 8) ?hd (cs := #[.bool false, .int .i64 0, .string (⟨#[]⟩ : ByteArray)]) (t := 117) ?hr ?_; (case hd => rfl); (case hg => rfl); (case hr => first | (go_simp; done) | (go_simp; rfl)); intro gb409 hg w24 hbox hb; have n0_ := Aside0.mk (Kd.V_below (Kd.V_elderB kz12_5 gb409 (Nat.le_of_eq hg.symm)) hb); have n1_ := Aside0.mk (Kd.R_below (Kd.R_elderB kz12_4 gb409 (Nat.le_of_eq hg.symm)) hb); have n2_ := Aside0.mk (below_step kz12_1 hb); have n3_ := Aside0.mk (hbox); have n4_ := Aside0.mk ((by rw [hg]; exact (below_size kz12_1) : w.heap.size ≤ gb409)); have n5_ := Aside0.mk ((by rw [hg]; exact (below_size kz12_1) : w.heap.size ≤ gb409)); clear HO_0; clear HO_7; clear HB; have HO_0 := n0_; have HO_7 := n1_; have HB := n2_; have BK409 := n3_; have GW409 := n4_; have GE409 := n5_; clear n0_ n1_ n2_ n3_ n4_ n5_; clear hb hbox hg; have p410 : 0 ≤ (0 : Int) := (by omega); have q410 : 0 < (x0_2.length : Int) := of_decide_eq_true kz12_7; obtain ⟨ad410, e410, hx410_0⟩ := Kd.at_int (Kd.V_reads' HO_0.out).2.2 0 p410 q410; cases e410; have qi410 : (0 < x0_2.length) = True := eq_true (by omega); (try rw [show ((0 : Int)).toNat = 0 from rfl] at hx410_0); (try rw [Addr.add_zero'] at hx410_0); replace p410 := eq_true p410; replace q410 := eq_true q410; have q25 : (1 : Int) ≤ ((x0_2.length : Int) : Int) := of_decide_eq_true kz12_7; obtain ⟨i025, hi025, _, hsz25, _⟩ := info_parts info5; have hroom25 : x0_2.length ≤ co23 := (Kd.V_reads' HO_0.out).2.1; have hC25 : Kd.F (Kd.int .u8) _ _ (some ad410) x0_2.length x0_2 := (Kd.V_at (base := w.heap.size) HO_0.out).2.2; have hcut25 := cut_from (P := Try.prog) 50 5 .i64 Try.underlying50 hi025 1 hsz25 (some ad410) x0_2.length co23 1 (by omega) q25; have hr25 := Kd.F_cut (m := (1 : Int).toNat) (c := co23) hC25 (by omega) hroom25; obtain ⟨A25, hA25⟩ : ∃ A1, A1 = (if co23 = (1 : Int).toNat then (some ad410) else ((some ad410) : Option Addr).map (·.add ((1 : Int).toNat * 1))) := ⟨_, rfl⟩; obtain ⟨c25, hc25⟩ : ∃ c1, c1 = co23 - (1 : Int).toNat := ⟨_, rfl⟩; have hy25 : y411.length = x0_2.length - (1 : Int).toNat := (by rw [Ny411.out, List.length_drop] <;> omega); rw [show (x0_2).drop (1 : Int).toNat = y411 from Ny411.out.symm] at hr25; replace hr25 : Kd.F (Kd.int .u8) _ _ A25 y411.length y411 := (by rw [hA25]; exact hr25); rw [← hy25, ← hA25, ← hc25] at hcut25; have HO415 := Aside0.mk (show Kd.V (Kd.int .u8) 5 _ w.heap.size _ (.slice A25 y411.length c25) y411 from Kd.V_mk (by rw [hy25, hc25]; exact Nat.sub_le_sub_right hroom25 _) hr25); have HC415 := Aside0.mk (show y411.length ≤ c25 from by rw [hy25, hc25]; exact Nat.sub_le_sub_right hroom25 _); clear hr25 hC25 hroom25 hi025 hsz25 hc25; have KY25 := Aside0.mk hy25; have KA25 := Aside0.mk hA25; clear hy25 hA25; replace q25 := eq_true q25) | ((with_reducible refine gate_callee (f := 80) rfl ?_); refine goesL_ (some 42) rfl rfl Try.func80 (by kernel_rfl) rfl #[.slice A25 y411.length c25] rfl kz12_3 ?_; (with_reducible refine (tumbrelref01_TakeNumber.calls k2 _ _ y411 t416 t417 t418 _ ?side1 ?side2 A17.out).mono ?_); (case side1 => repeat (first | exact (Kd.V_reads' HO415.out).2.2 | (with_reducible refine Kd.C_alloc ?_ _) | (with_reducible refine Kd.C_drewN ?_ _) | (with_reducible refine Kd.C_drew ?_))); (case side2 => exact (Kd.V_reads' HO415.out).2.1); rintro e w26 ⟨rfl, hb⟩; refine ⟨_, rfl, ?_⟩; have n0_ := Aside0.mk (Kd.V_below kz12_5 hb); have n1_ := Aside0.mk (Kd.R_below kz12_4 hb); have n2_ := Aside0.mk (Kd.V_below (by (with_reducible repeat (first | apply Kd.V_alloc | apply Kd.V_drewN | apply Kd.V_drew)); exact HO415.out) hb); have n3_ := Aside0.mk (blk_below (g := gb409) (o := .cells #[.bool false, .int .i64 0, .string (⟨#[]⟩ : ByteArray)] 117 (0, 0)) kz12_6 hb); have n4_ := Aside0.mk (below_step kz12_2 hb); clear HO_0; clear HO_7; clear HO415; clear BK409; clear HB; have HO_0 := n0_; have HO_7 := n1_; have HO415 := n2_; have BK409 := n3_; have HB := n4_; clear n0_ n1_ n2_ n3_ n4_; (try clear hb); (try clear hb2); (try clear hk); (try clear hi); have hcz27_0 : w26.cell? ⟨gb409, 0, none⟩ = some (.bool false) := (blk_cell BK409.out 0).trans rfl; have hcz27_1 : w26.cell? ⟨gb409, 1, none⟩ = some (.int .i64 0) := (blk_cell BK409.out 1).trans rfl; have hcz27_2 : w26.cell? ⟨gb409, 2, none⟩ = some (.string (⟨#[]⟩ : ByteArray)) := (blk_cell BK409.out 2).trans rfl; have hfz27_0 := blk_frozen BK409.out 0; have hfz27_1 := blk_frozen BK409.out 1; have hfz27_2 := blk_frozen BK409.out 2))
                 have n0_ : Aside0 (Kd.V (Kd.int .u8) 5 (w26.setCell ⟨gb409, 1, none⟩ (.int .i64 t416)) w.heap.size (fun k_ => (P0_ k_ ∨ w.heap.size ≤ k_) ∧ some k_ ≠ (u7 : Value).ownBlock ∧ k_ ≠ gb409) (.slice (some ad410) x0_2.length co23) x0_2) := ⟨by (with_reducible repeat (first | apply Kd.V_alloc | apply Kd.V_drewN | apply Kd.V_drew)); exact Kd.V_mono (Kd.V_far (p := ⟨gb409, 1, none⟩) (Kd.V_mono HO_0.out (fun k_ hk => (⟨hk, hk.2⟩ : _ ∧ k_ ≠ gb409))) (fun _ hk => hk.2) (.int .i64 t416)) (fun _ hk => ⟨hk.1.1.1, ⟨hk.1.1.2, hk.1.2⟩⟩)⟩
                 have n1_ : Aside0 (Kd.R k117 117 (w26.setCell ⟨gb409, 1, none⟩ (.int .i64 t416)) w.heap.size (fun k_ => (w.heap.size ≤ k_) ∧ k_ ≠ gb409) u7 x7_2) := ⟨by (with_reducible repeat (first | apply Kd.R_alloc | apply Kd.R_drewN | apply Kd.R_drew)); exact Kd.R_mono (Kd.R_far (p := ⟨gb409, 1, none⟩) (Kd.R_mono HO_7.out (fun k_ hk => (⟨hk, hk.2⟩ : _ ∧ k_ ≠ gb409))) (fun _ hk => hk.2) (.int .i64 t416)) (fun _ hk => ⟨hk.1.1, hk.1.2⟩)⟩
                 have n2_ : Aside0 (Kd.V (Kd.int .u8) 5 (w26.setCell ⟨gb409, 1, none⟩ (.int .i64 t416)) w.heap.size (fun k_ => (P0_ k_ ∨ w.heap.size ≤ k_) ∧ some k_ ≠ (u7 : Value).ownBlock ∧ k_ ≠ gb409) (.slice A25 y411.length c25) y411) := ⟨by (with_reducible repeat (first | apply Kd.V_alloc | apply Kd.V_drewN | apply Kd.V_drew)); exact Kd.V_mono (Kd.V_far (p := ⟨gb409, 1, none⟩) (Kd.V_mono HO415.out (fun k_ hk => (⟨hk, hk.2⟩ : _ ∧ k_ ≠ gb409))) (fun _ hk => hk.2) (.int .i64 t416)) (fun _ hk => ⟨hk.1.1.1, ⟨hk.1.1.2, hk.1.2⟩⟩)⟩
                 have n3_ : Aside0 ((w26.setCell ⟨gb409, 1, none⟩ (.int .i64 t416)).heap[gb409]? = some (.cells #[.bool false, .int .i64 t416, .string (⟨#[]⟩ : ByteArray)] 117 (0, 0))) := ⟨by (with_reducible repeat (first | refine blk_drewN ?_ _ | refine blk_drew ?_ | refine blk_alloc ?_ _)); refine blk_put (cs := #[.bool false, .int .i64 0, .string (⟨#[]⟩ : ByteArray)]) ?_ 1 _ rfl; (with_reducible repeat (first | refine blk_drewN ?_ _ | refine blk_drew ?_ | refine blk_alloc ?_ _)); exact BK409.out⟩
                 have n4_ : Aside0 (Below w.heap.size w (w26.setCell ⟨gb409, 1, none⟩ (.int .i64 t416))) := ⟨by repeat (first | (with_reducible first | exact HB.out | apply below_alloc | apply pw_below_drewN | apply below_drew1 | refine below_set ?_ GE409.out) | exact HB.out)⟩
                 (try clear HO_0)
                 (try clear HO_7)
                 (try clear HO415)
                 (try clear BK409)
                 (try clear HB)
                 generalize (w26.setCell ⟨gb409, 1, none⟩ (.int .i64 t416)) = w28 at n0_ n1_ n2_ n3_ n4_ ⊢
                 have HO_0 := n0_
                 have HO_7 := n1_
                 have HO415 := n2_
                 have BK409 := n3_
                 have HB := n4_
                 clear n0_ n1_ n2_ n3_ n4_
                 have n0_ := Aside0.mk (Kd.V_drew HO_0.out)
                 have n1_ := Aside0.mk (Kd.R_drew HO_7.out)
                 have n2_ := Aside0.mk (Kd.V_drew HO415.out)
                 have n3_ := Aside0.mk (blk_drew BK409.out)
                 have n4_ := Aside0.mk (below_drew1 HB.out)
                 clear HO_0
                 clear HO_7
                 clear HO415
                 clear BK409
                 clear HB
                 have HO_0 := n0_
                 have HO_7 := n1_
                 have HO415 := n2_
                 have BK409 := n3_
                 have HB := n4_
                 clear n0_ n1_ n2_ n3_ n4_
                 have q30 : ((ji20) : Int) ≤ ((x0_2.length : Int) : Int) := of_decide_eq_true kz12_7
                 obtain ⟨i030, hi030, _, hsz30, _⟩ := info_parts info5
                 have hroom30 : x0_2.length ≤ co23 := (Kd.V_reads' HO_0.out).2.1
                 have hC30 : Kd.F (Kd.int .u8) _ _ (some ad410) x0_2.length x0_2 := (Kd.V_at (base := w.heap.size) HO_0.out).2.2
                 have q030 : (0 : Int) ≤ ((ji20) : Int) := of_decide_eq_true kz12_7
                 have hcut30 := cut_from (P := Try.prog) 50 5 .i64 Try.underlying50 hi030 1 hsz30 (some ad410) x0_2.length co23 (ji20) q030 q30
                 have hr30 := Kd.F_cut (m := ((ji20) : Int).toNat) (c := co23) hC30 (by omega) hroom30
                 obtain ⟨A30, hA30⟩ : ∃ A1, A1 = (if co23 = ((ji20) : Int).toNat then (some ad410) else ((some ad410) : Option Addr).map (·.add (((ji20) : Int).toNat * 1))) := ⟨_, rfl⟩
                 obtain ⟨c30, hc30⟩ : ∃ c1, c1 = co23 - ((ji20) : Int).toNat := ⟨_, rfl⟩
                 have hy30 : y422.length = x0_2.length - ((ji20) : Int).toNat := (by rw [Ny422.out, List.length_drop] <;> omega)
                 rw [show (x0_2).drop ((ji20) : Int).toNat = y422 from Ny422.out.symm] at hr30
                 replace hr30 : Kd.F (Kd.int .u8) _ _ A30 y422.length y422 := (by rw [hA30]; exact hr30)
                 rw [← hy30, ← hA30, ← hc30] at hcut30
                 have HO426 := Aside0.mk (show Kd.V (Kd.int .u8) 5 _ w.heap.size _ (.slice A30 y422.length c30) y422 from Kd.V_mk (by rw [hy30, hc30]; exact Nat.sub_le_sub_right hroom30 _) hr30)
                 have HC426 := Aside0.mk (show y422.length ≤ c30 from by rw [hy30, hc30]; exact Nat.sub_le_sub_right hroom30 _)
                 clear hr30 hC30 hroom30 hi030 hsz30 hc30
                 have KY30 := Aside0.mk hy30
                 have KA30 := Aside0.mk hA30
                 clear hy30 hA30
                 replace q30 := eq_true q30
                 refine start_ (n := 10) (S := fun w' => w'.cell? ⟨gb409, 0, none⟩ = some (.bool false) ∧ w'.cell? ⟨gb409, 1, none⟩ = some (.int .i64 t416) ∧ w'.cell? ⟨gb409, 2, none⟩ = some (.string (⟨#[]⟩ : ByteArray))) (ds := []) #[false, false, false, false, false, false, false, false, false, false] (by kernel_rfl) rfl rfl ⟨(blk_cell BK409.out 0).trans rfl, (blk_cell BK409.out 1).trans rfl, (blk_cell BK409.out 2).trans rfl⟩ (fun hHeld => ?_); refine with_tabW tumbrelref01_Read.tab20 tumbrelref01_Read.bits20 (fun HT_ HW_ => ?_)
                 generalize w28.drew = w29 at HO_0 HO_7 HO415 BK409 HB HO426 hHeld ⊢
                 refine pure_ (i := 0) (N := some 60) (v := ?_) (a' := ?_) #[true, false, false, false, false, false, false, false, false, false] rfl rfl (any_of HT_.out (by kernel_rfl)) (fun _ _ _ h => h) (Or.inl ⟨by rfl, ?_⟩) ?_ ?_
                 rotate_left
                 ·intro w'
                  go_simp
                  with_reducible rfl
                 rotate_left
                 ·simp only [Act.put, sA_, sB_, sC_, i64_w, i32_w]
                  rfl
                 refine pure_ (i := 4) (N := some 64) (v := ?_) (a' := ?_) #[true, false, false, false, true, false, false, false, false, false] rfl rfl (any_of HT_.out (by kernel_rfl)) (fun _ _ _ h => h) (Or.inl ⟨by rfl, ?_⟩) ?_ ?_
                 rotate_left
                 ·intro w'
                  go_simp
                  with_reducible rfl
                 rotate_left
                 ·simp only [Act.put, sA_, sB_, sC_, i64_w, i32_w]
                  rfl
                 refine pure_ (i := 5) (N := some 65) (v := ?_) (a' := ?_) #[true, false, false, false, true, true, false, false, false, false] rfl rfl (any_of HT_.out (by kernel_rfl)) (fun _ _ _ h => h) (Or.inl ⟨by rfl, ?_⟩) ?_ ?_
                 rotate_left
                 ·intro w'
                  go_simp
                  with_reducible rfl
                 rotate_left
                 ·simp only [Act.put, sA_, sB_, sC_, i64_w, i32_w]
                  rfl
                 refine pure_ (i := 6) (N := some 66) (v := ?_) (a' := ?_) #[true, false, false, false, true, true, true, false, false, false] rfl rfl (any_of HT_.out (by kernel_rfl)) (fun _ _ _ h => h) (Or.inl ⟨by rfl, ?_⟩) ?_ ?_
                 rotate_left
                 ·intro w'
                  go_simp
                  with_reducible rfl
                 rotate_left
                 ·simp only [Act.put, sA_, sB_, sC_, i64_w, i32_w]
                  rfl
                 refine pure_ (i := 7) (N := some 67) (v := ?_) (a' := ?_) #[true, false, false, false, true, true, true, true, false, false] rfl rfl (any_of HT_.out (by kernel_rfl)) (fun _ _ _ h => h) (Or.inl ⟨by rfl, ?_⟩) ?_ ?_
                 rotate_left
                 ·intro w'
                  go_simp
                  with_reducible rfl
                 rotate_left
                 ·simp only [Act.put, sA_, sB_, sC_, i64_w, i32_w]
                  rfl
                 refine take_ (i := 1) (N := some 61) (v := ?_) (a' := ?_) #[true, true, false, false, true, true, true, true, false, false] rfl rfl (take_ofW HT_.out HW_.out (by kernel_rfl)) (fun _ _ _ h => h) (Or.inl ⟨by rfl, ?_⟩) hHeld ?_ ?_
                 rotate_left
                 ·rintro w' ⟨s0, s1, s2⟩
                  go_simp
                  with_reducible rfl
                 rotate_left
                 ·simp only [Act.put, sA_, sB_, sC_, i64_w, i32_w]
                  rfl
                 refine one_ (i := 2) (N := some 62) #[true, true, true, false, true, true, true, true, false, false] rfl rfl (one_of HT_.out (by kernel_rfl)) (by decide) (fun K hK => ?_)
                 refine value_ (w1 := ?_) (v := ?_) (by rfl) rfl ?_ ?_
                 rotate_left 2
                 ·go_simp
                  constructor
                  ·rfl
                  ·rfl
                 refine hK.out _ _ ⟨(blk_cell (blk_alloc BK409.out _) 0).trans rfl, (blk_cell (blk_alloc BK409.out _) 1).trans rfl, (blk_cell (blk_alloc BK409.out _) 2).trans rfl⟩ (fun hHeld => ?_)
                 clear hK K
                 refine norm_ (a' := ?_) ?_ ?_
                 rotate_left
                 ·show Act.put _ (some 62) _ = _
                  simp only [Act.put, sA_, sB_, sC_, i64_w, i32_w]
                  rfl
                 refine one_ (i := 3) (N := some 63) #[true, true, true, true, true, true, true, true, false, false] rfl rfl (one_of HT_.out (by kernel_rfl)) (by decide) (fun K hK => ?_)
                 refine Kd.R_append_step k117 (w0 := w) w.heap.size (by rfl) (.tmp 60) (.tmp 62) 118 117 (.agg #[(.bool false), (.int .i64 0), (.string ⟨#[]⟩)]) 32 rfl Try.underlying118 info117 rfl (by decide) (by omega) u7 x7_2 (⟨false, t416, (⟨#[]⟩ : ByteArray)⟩ : S117) [.bool false, .int .i64 t416, .string (⟨#[]⟩ : ByteArray)] (fun k_ => (w.heap.size ≤ k_) ∧ k_ ≠ gb409) (fun _ => False) rfl rfl ?aP (fun _ hk => hk.elim) ?aF ?aO ?aB ?aS ?aL ?_
                 (case aP => exact k117_mkM _ _ _ (⟨false, t416, (⟨#[]⟩ : ByteArray)⟩ : S117))
                 (case aB => exact kz12_2)
                 (case aF => exact (fun k_ hk => ⟨(Nat.le_trans (below_size kz12_2) hk), Kd.freshB (g := gb409) (o := .cells #[.bool false, .int .i64 t416, .string (⟨#[]⟩ : ByteArray)] 117 (0, 0)) kz12_6 k_ hk⟩))
                 (case aO => exact kz12_4)
                 (case aS => exact (below_size kz12_2))
                 (case aL => have := LMc19.out; omega)
                 intro v420 w31 ho hb hg hat
                 rw [← Ny419.out] at ho
                 have n0_ := Aside0.mk (Kd.V_afterv (ok := (fun k_ => (P0_ k_ ∨ w.heap.size ≤ k_) ∧ k_ ≠ gb409)) (by (with_reducible repeat (first | apply Kd.V_alloc | apply Kd.V_drewN | apply Kd.V_drew)); exact Kd.V_mono HO_0.out (fun _ hk => ⟨⟨hk.1, hk.2.2⟩, hk.2.1⟩)) hg hat)
                 have n1_ := Aside0.mk (blk_grown (g := gb409) (o := .cells #[.bool false, .int .i64 t416, .string (⟨#[]⟩ : ByteArray)] 117 (0, 0)) kz12_6 hg (Kd.R_away HO_7.out (fun _ hk => hk.2)))
                 have n2_ := Aside0.mk (Kd.V_afterv (ok := (fun k_ => (P0_ k_ ∨ w.heap.size ≤ k_) ∧ k_ ≠ gb409)) (by (with_reducible repeat (first | apply Kd.V_alloc | apply Kd.V_drewN | apply Kd.V_drew)); exact Kd.V_mono HO415.out (fun _ hk => ⟨⟨hk.1, hk.2.2⟩, hk.2.1⟩)) hg hat)
                 have n3_ := Aside0.mk (Kd.V_afterv (ok := (fun k_ => (P0_ k_ ∨ w.heap.size ≤ k_) ∧ k_ ≠ gb409)) (by (with_reducible repeat (first | apply Kd.V_alloc | apply Kd.V_drewN | apply Kd.V_drew)); exact Kd.V_mono HO426.out (fun _ hk => ⟨⟨hk.1, hk.2.2⟩, hk.2.1⟩)) hg hat)
                 have n4_ := Aside0.mk (hb)
                 have n5_ := Aside0.mk (ho)
                 clear HO_0
                 clear BK409
                 clear HO415
                 clear HO426
                 clear HB
                 clear HO_7
                 have HO_0 := n0_
                 have BK409 := n1_
                 have HO415 := n2_
                 have HO426 := n3_
                 have HB := n4_
                 have HO421 := n5_
                 clear n0_ n1_ n2_ n3_ n4_ n5_
                 clear ho hb hg hat
                 refine hK.out _ _ ⟨(blk_cell BK409.out 0).trans rfl, (blk_cell BK409.out 1).trans rfl, (blk_cell BK409.out 2).trans rfl⟩ (fun hHeld => ?_)
                 clear hK K
                 refine norm_ (a' := ?_) ?_ ?_
                 rotate_left
                 ·show Act.put _ (some 63) _ = _
                  simp only [Act.put, sA_, sB_, sC_, i64_w, i32_w]
                  rfl
                 refine pure_ (i := 8) (N := some 7) (v := ?_) (a' := ?_) #[true, true, true, true, true, true, true, true, true, false] rfl rfl (any_of HT_.out (by kernel_rfl)) (fun _ _ _ h => h) (Or.inl ⟨by rfl, ?_⟩) ?_ ?_
                 rotate_left
                 ·intro w'
                  go_simp
                  with_reducible rfl
                 rotate_left
                 ·simp only [Act.put, sA_, sB_, sC_, i64_w, i32_w]
                  rfl
                 refine pure_ (i := 9) (N := some 0) (v := ?_) (a' := ?_) #[true, true, true, true, true, true, true, true, true, true] rfl rfl (any_of HT_.out (by kernel_rfl)) (fun _ _ _ h => h) (Or.inl ⟨by rfl, ?_⟩) ?_ ?_
                 rotate_left
                 ·intro w'
                  go_simp
                  with_reducible rfl
                 rotate_left
                 ·simp only [Act.put, sA_, sB_, sC_, i64_w, i32_w]
                  rfl
                 refine done_ (done_of HT_.out (by kernel_rfl)) ?_
                 try go_wp2
                 go_roundg k2
                 case measure => have := HJ2.out; have := HK2.out; omega
                 case rel => exact ⟨(y422), (y419), (wrap64 (x29_2 + 1)), kz12_11, H', ⟨by have := HJ2.out; have := HK2.out; omega⟩, ⟨by (with_reducible repeat (first | apply Kd.V_alloc | apply Kd.V_drewN | apply Kd.V_drew)); exact Kd.V_mono HO426.out (fun _ hk => ⟨hk.1.1, hk.2⟩)⟩, ⟨by (with_reducible repeat (first | apply Kd.R_alloc | apply Kd.R_drewN | apply Kd.R_drew)); exact Kd.R_mono HO421.out (fun _ hk => hk.1)⟩, ⟨by repeat (first | (with_reducible first | exact HB.out | apply below_alloc | apply pw_below_drewN | apply below_drew1 | refine below_set ?_ GE409.out) | exact HB.out)⟩⟩
                ·rw [if_neg c22] at H
                 exact absurd H (by simp)
               ·rw [if_neg c21] at H
                exact absurd H (by simp)
              ·rw [if_neg c19] at H
               exact absurd H (by simp)
             ·rw [if_neg c18] at H
              have c18b0 : (t418 == 0) = false := beq_eq_false_iff_ne.mpr c18
              have c18b1 : (t418 != 0) = true := bne_iff_ne.mpr c18
              simp only [Option.some.injEq, Prod.mk.injEq] at H
              obtain ⟨rfl, rfl⟩ := H
              obtain ⟨Ao32, co32, eo32⟩ := Kd.V_slice HO_0.out
              subst eo32
              go_wp2_with (first | ((with_reducible refine gate_dst (N := 8) rfl ?_); refine box_event ?hg (N := 8) ?hd (cs := #[.bool false, .int .i64 0, .string (⟨#[]⟩ : ByteArray)]) (t := 117) ?hr ?_; (case hd => rfl); (case hg => rfl); (case hr => first | (go_simp; done) | (go_simp; rfl)); intro gb409 hg w33 hbox hb; have n0_ := Aside0.mk (Kd.V_below (Kd.V_elderB kz12_5 gb409 (Nat.le_of_eq hg.symm)) hb); have n1_ := Aside0.mk (Kd.R_below (Kd.R_elderB kz12_4 gb409 (Nat.le_of_eq hg.symm)) hb); have n2_ := Aside0.mk (below_step kz12_1 hb); have n3_ := Aside0.mk (hbox); have n4_ := Aside0.mk ((by rw [hg]; exact (below_size kz12_1) : w.heap.size ≤ gb409)); have n5_ := Aside0.mk ((by rw [hg]; exact (below_size kz12_1) : w.heap.size ≤ gb409)); clear HO_0; clear HO_7; clear HB; have HO_0 := n0_; have HO_7 := n1_; have HB := n2_; have BK409 := n3_; have GW409 := n4_; have GE409 := n5_; clear n0_ n1_ n2_ n3_ n4_ n5_; clear hb hbox hg; have p410 : 0 ≤ (0 : Int) := (by omega); have q410 : 0 < (x0_2.length : Int) := of_decide_eq_true kz12_7; obtain ⟨ad410, e410, hx410_0⟩ := Kd.at_int (Kd.V_reads' HO_0.out).2.2 0 p410 q410; cases e410; have qi410 : (0 < x0_2.length) = True := eq_true (by omega); (try rw [show ((0 : Int)).toNat = 0 from rfl] at hx410_0); (try rw [Addr.add_zero'] at hx410_0); replace p410 := eq_true p410; replace q410 := eq_true q410; have q34 : (1 : Int) ≤ ((x0_2.length : Int) : Int) := of_decide_eq_true kz12_7; obtain ⟨i034, hi034, _, hsz34, _⟩ := info_parts info5; have hroom34 : x0_2.length ≤ co32 := (Kd.V_reads' HO_0.out).2.1; have hC34 : Kd.F (Kd.int .u8) _ _ (some ad410) x0_2.length x0_2 := (Kd.V_at (base := w.heap.size) HO_0.out).2.2; have hcut34 := cut_from (P := Try.prog) 50 5 .i64 Try.underlying50 hi034 1 hsz34 (some ad410) x0_2.length co32 1 (by omega) q34; have hr34 := Kd.F_cut (m := (1 : Int).toNat) (c := co32) hC34 (by omega) hroom34; obtain ⟨A34, hA34⟩ : ∃ A1, A1 = (if co32 = (1 : Int).toNat then (some ad410) else ((some ad410) : Option Addr).map (·.add ((1 : Int).toNat * 1))) := ⟨_, rfl⟩; obtain ⟨c34, hc34⟩ : ∃ c1, c1 = co32 - (1 : Int).toNat := ⟨_, rfl⟩; have hy34 : y411.length = x0_2.length - (1 : Int).toNat := (by rw [Ny411.out, List.length_drop] <;> omega); rw [show (x0_2).drop (1 : Int).toNat = y411 from Ny411.out.symm] at hr34; replace hr34 : Kd.F (Kd.int .u8) _ _ A34 y411.length y411 := (by rw [hA34]; exact hr34); rw [← hy34, ← hA34, ← hc34] at hcut34; have HO415 := Aside0.mk (show Kd.V (Kd.int .u8) 5 _ w.heap.size _ (.slice A34 y411.length c34) y411 from Kd.V_mk (by rw [hy34, hc34]; exact Nat.sub_le_sub_right hroom34 _) hr34); have HC415 := Aside0.mk (show y411.length ≤ c34 from by rw [hy34, hc34]; exact Nat.sub_le_sub_right hroom34 _); clear hr34 hC34 hroom34 hi034 hsz34 hc34; have KY34 := Aside0.mk hy34; have KA34 := Aside0.mk hA34; clear hy34 hA34; replace q34 := eq_true q34) | ((with_reducible refine gate_callee (f := 80) rfl ?_); refine goesL_ (some 42) rfl rfl Try.func80 (by kernel_rfl) rfl #[.slice A34 y411.length c34] rfl kz12_3 ?_; (with_reducible refine (tumbrelref01_TakeNumber.calls k2 _ _ y411 t416 t417 t418 _ ?side1 ?side2 A17.out).mono ?_); (case side1 => repeat (first | exact (Kd.V_reads' HO415.out).2.2 | (with_reducible refine Kd.C_alloc ?_ _) | (with_reducible refine Kd.C_drewN ?_ _) | (with_reducible refine Kd.C_drew ?_))); (case side2 => exact (Kd.V_reads' HO415.out).2.1); rintro e w35 ⟨rfl, hb⟩; refine ⟨_, rfl, ?_⟩; have n0_ := Aside0.mk (Kd.V_below kz12_5 hb); have n1_ := Aside0.mk (Kd.R_below kz12_4 hb); have n2_ := Aside0.mk (Kd.V_below (by (with_reducible repeat (first | apply Kd.V_alloc | apply Kd.V_drewN | apply Kd.V_drew)); exact HO415.out) hb); have n3_ := Aside0.mk (blk_below (g := gb409) (o := .cells #[.bool false, .int .i64 0, .string (⟨#[]⟩ : ByteArray)] 117 (0, 0)) kz12_6 hb); have n4_ := Aside0.mk (below_step kz12_2 hb); clear HO_0; clear HO_7; clear HO415; clear BK409; clear HB; have HO_0 := n0_; have HO_7 := n1_; have HO415 := n2_; have BK409 := n3_; have HB := n4_; clear n0_ n1_ n2_ n3_ n4_; (try clear hb); (try clear hb2); (try clear hk); (try clear hi); have hcz36_0 : w35.cell? ⟨gb409, 0, none⟩ = some (.bool false) := (blk_cell BK409.out 0).trans rfl; have hcz36_1 : w35.cell? ⟨gb409, 1, none⟩ = some (.int .i64 0) := (blk_cell BK409.out 1).trans rfl; have hcz36_2 : w35.cell? ⟨gb409, 2, none⟩ = some (.string (⟨#[]⟩ : ByteArray)) := (blk_cell BK409.out 2).trans rfl; have hfz36_0 := blk_frozen BK409.out 0; have hfz36_1 := blk_frozen BK409.out 1; have hfz36_2 := blk_frozen BK409.out 2))
              go_ret2
              exact ⟨_, by first | rfl | (simp [errW_none, errW_some] <;> rfl) | (simp [*, errW_none, errW_some] <;> rfl), by first | exact Kd.R_nil _ _ _ _ _ | exact Kd.N_nil _ _ _ _ _ | exact Kd.V_nil _ _ _ _ _ | exact Kd.Q_nil _ _ _ _ _ | exact Kd.S_nil _ _ _ _ _, by repeat (first | (with_reducible first | exact HB.out | apply below_alloc | apply pw_below_drewN | apply below_drew1 | refine below_set ?_ GE409.out) | exact HB.out)⟩
            ·rw [if_neg c16] at H
             exact absurd H (by simp)
           ·rw [if_neg c15] at H
            have c15b0 : ((rd x0_2 0) == 1) = false := beq_eq_false_iff_ne.mpr c15
            have c15b1 : ((rd x0_2 0) != 1) = true := bne_iff_ne.mpr c15
            by_cases c37 : (rd x0_2 0) = 2
            ·rw [if_pos c37] at H
             have c37b0 : ((rd x0_2 0) == 2) = true := beq_iff_eq.mpr c37
             have c37b1 : ((rd x0_2 0) != 2) = false := bne_eq_false_iff_eq.mpr c37
             clear c37
             by_cases c38 : 1 ≤ (x0_2.length : Int)
             ·rw [if_pos c38] at H
              have c38b0 := eq_true c38
              have c38b1 : decide (1 ≤ (x0_2.length : Int)) = true := decide_eq_true c38
              clear c38
              obtain ⟨y427, hy427⟩ : ∃ y_ : List Int, y_ = (x0_2.drop 1) := ⟨_, rfl⟩
              replace H : ((tumbrelref01_TakeText.f k2 y427).bind fun bt432 => (if bt432.2.2 = 0 then (if x7_2.length < 4398046511104 then (if 0 ≤ (wrap64 (1 + bt432.2.1)) then (if (wrap64 (1 + bt432.2.1)) ≤ (x0_2.length : Int) then (tumbrelref01_Read.l0 k2 (x0_2.drop ((wrap64 (1 + bt432.2.1)) : Int).toNat) (x7_2 ++ [(⟨true, 0, bt432.1⟩ : S117)]) t401 (wrap64 (x29_2 + 1))) else (none)) else (none)) else (none)) else (some (([] : List (S117)), 2)))) = some (r1, r2) := by first | (rw [hy427]; with_reducible exact H) | (have H2_ := (Option.bind_some _ _).symm.trans H; rw [hy427]; with_reducible exact H2_) | (have H2_ := (Option.bind_some _ _).symm.trans H; with_reducible exact H2_) | with_reducible exact H | (rw [hy427]; exact H) | exact H
              have Ny427 := Aside0.mk hy427
              clear hy427
              replace H := Option.bind_eq_some_iff.mp H
              obtain ⟨⟨t432, t433, t434⟩, A390, H⟩ := H
              replace H : (if t434 = 0 then (if x7_2.length < 4398046511104 then (if 0 ≤ (wrap64 (1 + t433)) then (if (wrap64 (1 + t433)) ≤ (x0_2.length : Int) then (tumbrelref01_Read.l0 k2 (x0_2.drop ((wrap64 (1 + t433)) : Int).toNat) (x7_2 ++ [(⟨true, 0, t432⟩ : S117)]) t401 (wrap64 (x29_2 + 1))) else (none)) else (none)) else (none)) else (some (([] : List (S117)), 2))) = some (r1, r2) := H
              have A39 := Aside0.mk A390
              clear A390
              by_cases c40 : t434 = 0
              ·rw [if_pos c40] at H
               have c40b0 : (t434 == 0) = true := beq_iff_eq.mpr c40
               have c40b1 : (t434 != 0) = false := bne_eq_false_iff_eq.mpr c40
               clear c40
               by_cases c41 : x7_2.length < 4398046511104
               ·rw [if_pos c41] at H
                have LMc41 := Aside0.mk c41
                clear c41
                obtain ⟨y435, hy435⟩ : ∃ y_ : List (S117), y_ = (x7_2 ++ [(⟨true, 0, t432⟩ : S117)]) := ⟨_, rfl⟩
                replace H : (if 0 ≤ (wrap64 (1 + t433)) then (if (wrap64 (1 + t433)) ≤ (x0_2.length : Int) then (tumbrelref01_Read.l0 k2 (x0_2.drop ((wrap64 (1 + t433)) : Int).toNat) y435 t401 (wrap64 (x29_2 + 1))) else (none)) else (none)) = some (r1, r2) := by first | (rw [hy435]; with_reducible exact H) | (have H2_ := (Option.bind_some _ _).symm.trans H; rw [hy435]; with_reducible exact H2_) | (have H2_ := (Option.bind_some _ _).symm.trans H; with_reducible exact H2_) | with_reducible exact H | (rw [hy435]; exact H) | exact H
                have Ny435 := Aside0.mk hy435
                clear hy435
                obtain ⟨ji42, hji42⟩ : ∃ j_ : Int, (wrap64 (1 + t433)) = j_ := ⟨_, rfl⟩
                replace H : (if 0 ≤ (ji42) then (if (ji42) ≤ (x0_2.length : Int) then (tumbrelref01_Read.l0 k2 (x0_2.drop ((ji42) : Int).toNat) y435 t401 (wrap64 (x29_2 + 1))) else (none)) else (none)) = some (r1, r2) := by first | (rw [hji42] at H; exact H) | (simp only [hji42] at H ⊢; exact H)
                (try rw [hji42] at A39)
                have hji42w : (IntKind.i64.wrap (1 + t433)) = ji42 := (i64_w _).trans hji42
                by_cases c43 : 0 ≤ (ji42)
                ·rw [if_pos c43] at H
                 have c43b0 := eq_true c43
                 have c43b1 : decide (0 ≤ (ji42)) = true := decide_eq_true c43
                 clear c43
                 by_cases c44 : (ji42) ≤ (x0_2.length : Int)
                 ·rw [if_pos c44] at H
                  have c44b0 := eq_true c44
                  have c44b1 : decide ((ji42) ≤ (x0_2.length : Int)) = true := decide_eq_true c44
                  clear c44
                  obtain ⟨y438, hy438⟩ : ∃ y_ : List Int, y_ = (x0_2.drop ((ji42) : Int).toNat) := ⟨_, rfl⟩
                  replace H : (tumbrelref01_Read.l0 k2 y438 y435 t401 (wrap64 (x29_2 + 1))) = some (r1, r2) := by first | (rw [hy438]; with_reducible exact H) | (have H2_ := (Option.bind_some _ _).symm.trans H; rw [hy438]; with_reducible exact H2_) | (have H2_ := (Option.bind_some _ _).symm.trans H; with_reducible exact H2_) | with_reducible exact H | (rw [hy438]; exact H) | exact H
                  have Ny438 := Aside0.mk hy438
                  clear hy438
                  have H' := Aside0.mk H
                  clear H
                  obtain ⟨Ao45, co45, eo45⟩ := Kd.V_slice HO_0.out
                  subst eo45
                  try go_wp2_with (first | ((with_reducible refine gate_dst (N := 8) rfl ?_); refine box_event ?hg (N := 8) ?hd (cs := #[.bool false, .int .i64 0, .string (⟨#[]⟩ : ByteArray)]) (t := 117) ?hr ?_; (case hd => rfl); (case hg => rfl); (case hr => first | (go_simp; done) | (go_simp; rfl)); intro gb409 hg w46 hbox hb; have n0_ := Aside0.mk (Kd.V_below (Kd.V_elderB kz12_5 gb409 (Nat.le_of_eq hg.symm)) hb); have n1_ := Aside0.mk (Kd.R_below (Kd.R_elderB kz12_4 gb409 (Nat.le_of_eq hg.symm)) hb); have n2_ := Aside0.mk (below_step kz12_1 hb); have n3_ := Aside0.mk (hbox); have n4_ := Aside0.mk ((by rw [hg]; exact (below_size kz12_1) : w.heap.size ≤ gb409)); have n5_ := Aside0.mk ((by rw [hg]; exact (below_size kz12_1) : w.heap.size ≤ gb409)); clear HO_0; clear HO_7; clear HB; have HO_0 := n0_; have HO_7 := n1_; have HB := n2_; have BK409 := n3_; have GW409 := n4_; have GE409 := n5_; clear n0_ n1_ n2_ n3_ n4_ n5_; clear hb hbox hg; have p410 : 0 ≤ (0 : Int) := (by omega); have q410 : 0 < (x0_2.length : Int) := of_decide_eq_true kz12_7; obtain ⟨ad410, e410, hx410_0⟩ := Kd.at_int (Kd.V_reads' HO_0.out).2.2 0 p410 q410; cases e410; have qi410 : (0 < x0_2.length) = True := eq_true (by omega); (try rw [show ((0 : Int)).toNat = 0 from rfl] at hx410_0); (try rw [Addr.add_zero'] at hx410_0); replace p410 := eq_true p410; replace q410 := eq_true q410; have hcz47_0 : w46.cell? ⟨gb409, 0, none⟩ = some (.bool false) := (blk_cell BK409.out 0).trans rfl; have hcz47_1 : w46.cell? ⟨gb409, 1, none⟩ = some (.int .i64 0) := (blk_cell BK409.out 1).trans rfl; have hcz47_2 : w46.cell? ⟨gb409, 2, none⟩ = some (.string (⟨#[]⟩ : ByteArray)) := (blk_cell BK409.out 2).trans rfl; have hfz47_0 := blk_frozen BK409.out 0; have hfz47_1 := blk_frozen BK409.out 1; have hfz47_2 := blk_frozen BK409.out 2) | ((with_reducible refine gate_store (t := 4) (p := 49) rfl ?_); refine store_event (t := 4) (p := 49) (v := ?vo_w48) (w1 := (w46.setCell ⟨gb409, 0, none⟩ (.bool true))) ?hg ?ho ?hn ?hr ?_; (case ho => rfl); (case hg => rfl); (case hn => rfl); (case hr => first | (go_simp; done) | (go_simp; rfl)); intro w48 hw; have n0_ : Aside0 (Kd.V (Kd.int .u8) 5 w48 w.heap.size (fun k_ => (P0_ k_ ∨ w.heap.size ≤ k_) ∧ some k_ ≠ (u7 : Value).ownBlock ∧ k_ ≠ gb409) (.slice (some ad410) x0_2.length co45) x0_2) := ⟨kz12_9⟩; have n1_ : Aside0 (Kd.R k117 117 w48 w.heap.size (fun k_ => (w.heap.size ≤ k_) ∧ k_ ≠ gb409) u7 x7_2) := ⟨kz12_10⟩; have n2_ : Aside0 (w48.heap[gb409]? = some (.cells #[.bool true, .int .i64 0, .string (⟨#[]⟩ : ByteArray)] 117 (0, 0))) := ⟨kz12_8⟩; have n3_ : Aside0 (Below w.heap.size w w48) := ⟨(by rw [hw]; exact kz12_2)⟩; clear hw; clear HO_0; clear HO_7; clear BK409; clear HB; have HO_0 := n0_; have HO_7 := n1_; have BK409 := n2_; have HB := n3_; clear n0_ n1_ n2_ n3_; have q49 : (1 : Int) ≤ ((x0_2.length : Int) : Int) := of_decide_eq_true kz12_7; obtain ⟨i049, hi049, _, hsz49, _⟩ := info_parts info5; have hroom49 : x0_2.length ≤ co45 := (Kd.V_reads' HO_0.out).2.1; have hC49 : Kd.F (Kd.int .u8) _ _ (some ad410) x0_2.length x0_2 := (Kd.V_at (base := w.heap.size) HO_0.out).2.2; have hcut49 := cut_from (P := Try.prog) 50 5 .i64 Try.underlying50 hi049 1 hsz49 (some ad410) x0_2.length co45 1 (by omega) q49; have hr49 := Kd.F_cut (m := (1 : Int).toNat) (c := co45) hC49 (by omega) hroom49; obtain ⟨A49, hA49⟩ : ∃ A1, A1 = (if co45 = (1 : Int).toNat then (some ad410) else ((some ad410) : Option Addr).map (·.add ((1 : Int).toNat * 1))) := ⟨_, rfl⟩; obtain ⟨c49, hc49⟩ : ∃ c1, c1 = co45 - (1 : Int).toNat := ⟨_, rfl⟩; have hy49 : y427.length = x0_2.length - (1 : Int).toNat := (by rw [Ny427.out, List.length_drop] <;> omega); rw [show (x0_2).drop (1 : Int).toNat = y427 from Ny427.out.symm] at hr49; replace hr49 : Kd.F (Kd.int .u8) _ _ A49 y427.length y427 := (by rw [hA49]; exact hr49); rw [← hy49, ← hA49, ← hc49] at hcut49; have HO431 := Aside0.mk (show Kd.V (Kd.int .u8) 5 _ w.heap.size _ (.slice A49 y427.length c49) y427 from Kd.V_mk (by rw [hy49, hc49]; exact Nat.sub_le_sub_right hroom49 _) hr49); have HC431 := Aside0.mk (show y427.length ≤ c49 from by rw [hy49, hc49]; exact Nat.sub_le_sub_right hroom49 _); clear hr49 hC49 hroom49 hi049 hsz49 hc49; have KY49 := Aside0.mk hy49; have KA49 := Aside0.mk hA49; clear hy49 hA49; replace q49 := eq_true q49) | ((with_reducible refine gate_callee (f := 81) rfl ?_); refine goesL_ (some 53) rfl rfl Try.func81 (by kernel_rfl) rfl #[.slice A49 y427.length c49] rfl kz12_3 ?_; (with_reducible refine (tumbrelref01_TakeText.calls k2 _ _ y427 t432 t433 t434 _ ?side1 ?side2 A39.out).mono ?_); (case side1 => repeat (first | exact (Kd.V_reads' HO431.out).2.2 | (with_reducible refine Kd.C_alloc ?_ _) | (with_reducible refine Kd.C_drewN ?_ _) | (with_reducible refine Kd.C_drew ?_))); (case side2 => exact (Kd.V_reads' HO431.out).2.1); rintro e w50 ⟨rfl, hb⟩; refine ⟨_, rfl, ?_⟩; have n0_ := Aside0.mk (Kd.V_below kz12_5 hb); have n1_ := Aside0.mk (Kd.R_below kz12_4 hb); have n2_ := Aside0.mk (Kd.V_below (by (with_reducible repeat (first | apply Kd.V_alloc | apply Kd.V_drewN | apply Kd.V_drew)); exact HO431.out) hb); have n3_ := Aside0.mk (blk_below (g := gb409) (o := .cells #[.bool true, .int .i64 0, .string (⟨#[]⟩ : ByteArray)] 117 (0, 0)) kz12_6 hb); have n4_ := Aside0.mk (below_step kz12_2 hb); clear HO_0; clear HO_7; clear HO431; clear BK409; clear HB; have HO_0 := n0_; have HO_7 := n1_; have HO431 := n2_; have BK409 := n3_; have HB := n4_; clear n0_ n1_ n2_ n3_ n4_; (try clear hb); (try clear hb2); (try clear hk); (try clear hi); have hcz51_0 : w50.cell? ⟨gb409, 0, none⟩ = some (.bool true) := (blk_cell BK409.out 0).trans rfl; have hcz51_1 : w50.cell? ⟨gb409, 1, none⟩ = some (.int .i64 0) := (blk_cell BK409.out 1).trans rfl; have hcz51_2 : w50.cell? ⟨gb409, 2, none⟩ = some (.string (⟨#[]⟩ : ByteArray)) := (blk_cell BK409.out 2).trans rfl; have hfz51_0 := blk_frozen BK409.out 0; have hfz51_1 := blk_frozen BK409.out 1; have hfz51_2 := blk_frozen BK409.out 2))
                  have n0_ : Aside0 (Kd.V (Kd.int .u8) 5 (w50.setCell ⟨gb409, 2, none⟩ (.string t432)) w.heap.size (fun k_ => (P0_ k_ ∨ w.heap.size ≤ k_) ∧ some k_ ≠ (u7 : Value).ownBlock ∧ k_ ≠ gb409) (.slice (some ad410) x0_2.length co45) x0_2) := ⟨by (with_reducible repeat (first | apply Kd.V_alloc | apply Kd.V_drewN | apply Kd.V_drew)); exact Kd.V_mono (Kd.V_far (p := ⟨gb409, 2, none⟩) (Kd.V_mono HO_0.out (fun k_ hk => (⟨hk, hk.2.2⟩ : _ ∧ k_ ≠ gb409))) (fun _ hk => hk.2) (.string t432)) (fun _ hk => ⟨hk.1.1, ⟨hk.1.2.1, hk.1.2.2⟩⟩)⟩
                  have n1_ : Aside0 (Kd.R k117 117 (w50.setCell ⟨gb409, 2, none⟩ (.string t432)) w.heap.size (fun k_ => (w.heap.size ≤ k_) ∧ k_ ≠ gb409) u7 x7_2) := ⟨by (with_reducible repeat (first | apply Kd.R_alloc | apply Kd.R_drewN | apply Kd.R_drew)); exact Kd.R_mono (Kd.R_far (p := ⟨gb409, 2, none⟩) (Kd.R_mono HO_7.out (fun k_ hk => (⟨hk, hk.2⟩ : _ ∧ k_ ≠ gb409))) (fun _ hk => hk.2) (.string t432)) (fun _ hk => ⟨hk.1.1, hk.1.2⟩)⟩
                  have n2_ : Aside0 (Kd.V (Kd.int .u8) 5 (w50.setCell ⟨gb409, 2, none⟩ (.string t432)) w.heap.size (fun k_ => (P0_ k_ ∨ w.heap.size ≤ k_) ∧ some k_ ≠ (u7 : Value).ownBlock ∧ k_ ≠ gb409) (.slice A49 y427.length c49) y427) := ⟨by (with_reducible repeat (first | apply Kd.V_alloc | apply Kd.V_drewN | apply Kd.V_drew)); exact Kd.V_mono (Kd.V_far (p := ⟨gb409, 2, none⟩) (Kd.V_mono HO431.out (fun k_ hk => (⟨hk, hk.2.2⟩ : _ ∧ k_ ≠ gb409))) (fun _ hk => hk.2) (.string t432)) (fun _ hk => ⟨hk.1.1, ⟨hk.1.2.1, hk.1.2.2⟩⟩)⟩
                  have n3_ : Aside0 ((w50.setCell ⟨gb409, 2, none⟩ (.string t432)).heap[gb409]? = some (.cells #[.bool true, .int .i64 0, .string t432] 117 (0, 0))) := ⟨by (with_reducible repeat (first | refine blk_drewN ?_ _ | refine blk_drew ?_ | refine blk_alloc ?_ _)); refine blk_put (cs := #[.bool true, .int .i64 0, .string (⟨#[]⟩ : ByteArray)]) ?_ 2 _ rfl; (with_reducible repeat (first | refine blk_drewN ?_ _ | refine blk_drew ?_ | refine blk_alloc ?_ _)); exact BK409.out⟩
                  have n4_ : Aside0 (Below w.heap.size w (w50.setCell ⟨gb409, 2, none⟩ (.string t432))) := ⟨by repeat (first | (with_reducible first | exact HB.out | apply below_alloc | apply pw_below_drewN | apply below_drew1 | refine below_set ?_ GE409.out) | exact HB.out)⟩
                  (try clear HO_0)
                  (try clear HO_7)
                  (try clear HO431)
                  (try clear BK409)
                  (try clear HB)
                  generalize (w50.setCell ⟨gb409, 2, none⟩ (.string t432)) = w52 at n0_ n1_ n2_ n3_ n4_ ⊢
                  have HO_0 := n0_
                  have HO_7 := n1_
                  have HO431 := n2_
                  have BK409 := n3_
                  have HB := n4_
                  clear n0_ n1_ n2_ n3_ n4_
                  have n0_ := Aside0.mk (Kd.V_drew HO_0.out)
                  have n1_ := Aside0.mk (Kd.R_drew HO_7.out)
                  have n2_ := Aside0.mk (Kd.V_drew HO431.out)
                  have n3_ := Aside0.mk (blk_drew BK409.out)
                  have n4_ := Aside0.mk (below_drew1 HB.out)
                  clear HO_0
                  clear HO_7
                  clear HO431
                  clear BK409
                  clear HB
                  have HO_0 := n0_
                  have HO_7 := n1_
                  have HO431 := n2_
                  have BK409 := n3_
                  have HB := n4_
                  clear n0_ n1_ n2_ n3_ n4_
                  have q54 : ((ji42) : Int) ≤ ((x0_2.length : Int) : Int) := of_decide_eq_true kz12_7
                  obtain ⟨i054, hi054, _, hsz54, _⟩ := info_parts info5
                  have hroom54 : x0_2.length ≤ co45 := (Kd.V_reads' HO_0.out).2.1
                  have hC54 : Kd.F (Kd.int .u8) _ _ (some ad410) x0_2.length x0_2 := (Kd.V_at (base := w.heap.size) HO_0.out).2.2
                  have q054 : (0 : Int) ≤ ((ji42) : Int) := of_decide_eq_true kz12_7
                  have hcut54 := cut_from (P := Try.prog) 50 5 .i64 Try.underlying50 hi054 1 hsz54 (some ad410) x0_2.length co45 (ji42) q054 q54
                  have hr54 := Kd.F_cut (m := ((ji42) : Int).toNat) (c := co45) hC54 (by omega) hroom54
                  obtain ⟨A54, hA54⟩ : ∃ A1, A1 = (if co45 = ((ji42) : Int).toNat then (some ad410) else ((some ad410) : Option Addr).map (·.add (((ji42) : Int).toNat * 1))) := ⟨_, rfl⟩
                  obtain ⟨c54, hc54⟩ : ∃ c1, c1 = co45 - ((ji42) : Int).toNat := ⟨_, rfl⟩
                  have hy54 : y438.length = x0_2.length - ((ji42) : Int).toNat := (by rw [Ny438.out, List.length_drop] <;> omega)
                  rw [show (x0_2).drop ((ji42) : Int).toNat = y438 from Ny438.out.symm] at hr54
                  replace hr54 : Kd.F (Kd.int .u8) _ _ A54 y438.length y438 := (by rw [hA54]; exact hr54)
                  rw [← hy54, ← hA54, ← hc54] at hcut54
                  have HO442 := Aside0.mk (show Kd.V (Kd.int .u8) 5 _ w.heap.size _ (.slice A54 y438.length c54) y438 from Kd.V_mk (by rw [hy54, hc54]; exact Nat.sub_le_sub_right hroom54 _) hr54)
                  have HC442 := Aside0.mk (show y438.length ≤ c54 from by rw [hy54, hc54]; exact Nat.sub_le_sub_right hroom54 _)
                  clear hr54 hC54 hroom54 hi054 hsz54 hc54
                  have KY54 := Aside0.mk hy54
                  have KA54 := Aside0.mk hA54
                  clear hy54 hA54
                  replace q54 := eq_true q54
                  refine start_ (n := 10) (S := fun w' => w'.cell? ⟨gb409, 0, none⟩ = some (.bool true) ∧ w'.cell? ⟨gb409, 1, none⟩ = some (.int .i64 0) ∧ w'.cell? ⟨gb409, 2, none⟩ = some (.string t432)) (ds := []) #[false, false, false, false, false, false, false, false, false, false] (by kernel_rfl) rfl rfl ⟨(blk_cell BK409.out 0).trans rfl, (blk_cell BK409.out 1).trans rfl, (blk_cell BK409.out 2).trans rfl⟩ (fun hHeld => ?_); refine with_tabW tumbrelref01_Read.tab20 tumbrelref01_Read.bits20 (fun HT_ HW_ => ?_)
                  generalize w52.drew = w53 at HO_0 HO_7 HO431 BK409 HB HO442 hHeld ⊢
                  refine pure_ (i := 0) (N := some 60) (v := ?_) (a' := ?_) #[true, false, false, false, false, false, false, false, false, false] rfl rfl (any_of HT_.out (by kernel_rfl)) (fun _ _ _ h => h) (Or.inl ⟨by rfl, ?_⟩) ?_ ?_
                  rotate_left
                  ·intro w'
                   go_simp
                   with_reducible rfl
                  rotate_left
                  ·simp only [Act.put, sA_, sB_, sC_, i64_w, i32_w]
                   rfl
                  refine pure_ (i := 4) (N := some 64) (v := ?_) (a' := ?_) #[true, false, false, false, true, false, false, false, false, false] rfl rfl (any_of HT_.out (by kernel_rfl)) (fun _ _ _ h => h) (Or.inl ⟨by rfl, ?_⟩) ?_ ?_
                  rotate_left
                  ·intro w'
                   go_simp
                   with_reducible rfl
                  rotate_left
                  ·simp only [Act.put, sA_, sB_, sC_, i64_w, i32_w]
                   rfl
                  refine pure_ (i := 5) (N := some 65) (v := ?_) (a' := ?_) #[true, false, false, false, true, true, false, false, false, false] rfl rfl (any_of HT_.out (by kernel_rfl)) (fun _ _ _ h => h) (Or.inl ⟨by rfl, ?_⟩) ?_ ?_
                  rotate_left
                  ·intro w'
                   go_simp
                   with_reducible rfl
                  rotate_left
                  ·simp only [Act.put, sA_, sB_, sC_, i64_w, i32_w]
                   rfl
                  refine pure_ (i := 6) (N := some 66) (v := ?_) (a' := ?_) #[true, false, false, false, true, true, true, false, false, false] rfl rfl (any_of HT_.out (by kernel_rfl)) (fun _ _ _ h => h) (Or.inl ⟨by rfl, ?_⟩) ?_ ?_
                  rotate_left
                  ·intro w'
                   go_simp
                   with_reducible rfl
                  rotate_left
                  ·simp only [Act.put, sA_, sB_, sC_, i64_w, i32_w]
                   rfl
                  refine pure_ (i := 7) (N := some 67) (v := ?_) (a' := ?_) #[true, false, false, false, true, true, true, true, false, false] rfl rfl (any_of HT_.out (by kernel_rfl)) (fun _ _ _ h => h) (Or.inl ⟨by rfl, ?_⟩) ?_ ?_
                  rotate_left
                  ·intro w'
                   go_simp
                   with_reducible rfl
                  rotate_left
                  ·simp only [Act.put, sA_, sB_, sC_, i64_w, i32_w]
                   rfl
                  refine take_ (i := 1) (N := some 61) (v := ?_) (a' := ?_) #[true, true, false, false, true, true, true, true, false, false] rfl rfl (take_ofW HT_.out HW_.out (by kernel_rfl)) (fun _ _ _ h => h) (Or.inl ⟨by rfl, ?_⟩) hHeld ?_ ?_
                  rotate_left
                  ·rintro w' ⟨s0, s1, s2⟩
                   go_simp
                   with_reducible rfl
                  rotate_left
                  ·simp only [Act.put, sA_, sB_, sC_, i64_w, i32_w]
                   rfl
                  refine one_ (i := 2) (N := some 62) #[true, true, true, false, true, true, true, true, false, false] rfl rfl (one_of HT_.out (by kernel_rfl)) (by decide) (fun K hK => ?_)
                  refine value_ (w1 := ?_) (v := ?_) (by rfl) rfl ?_ ?_
                  rotate_left 2
                  ·go_simp
                   constructor
                   ·rfl
                   ·rfl
                  refine hK.out _ _ ⟨(blk_cell (blk_alloc BK409.out _) 0).trans rfl, (blk_cell (blk_alloc BK409.out _) 1).trans rfl, (blk_cell (blk_alloc BK409.out _) 2).trans rfl⟩ (fun hHeld => ?_)
                  clear hK K
                  refine norm_ (a' := ?_) ?_ ?_
                  rotate_left
                  ·show Act.put _ (some 62) _ = _
                   simp only [Act.put, sA_, sB_, sC_, i64_w, i32_w]
                   rfl
                  refine one_ (i := 3) (N := some 63) #[true, true, true, true, true, true, true, true, false, false] rfl rfl (one_of HT_.out (by kernel_rfl)) (by decide) (fun K hK => ?_)
                  refine Kd.R_append_step k117 (w0 := w) w.heap.size (by rfl) (.tmp 60) (.tmp 62) 118 117 (.agg #[(.bool false), (.int .i64 0), (.string ⟨#[]⟩)]) 32 rfl Try.underlying118 info117 rfl (by decide) (by omega) u7 x7_2 (⟨true, 0, t432⟩ : S117) [.bool true, .int .i64 0, .string t432] (fun k_ => (w.heap.size ≤ k_) ∧ k_ ≠ gb409) (fun _ => False) rfl rfl ?aP (fun _ hk => hk.elim) ?aF ?aO ?aB ?aS ?aL ?_
                  (case aP => exact k117_mkM _ _ _ (⟨true, 0, t432⟩ : S117))
                  (case aB => exact kz12_2)
                  (case aF => exact (fun k_ hk => ⟨(Nat.le_trans (below_size kz12_2) hk), Kd.freshB (g := gb409) (o := .cells #[.bool true, .int .i64 0, .string t432] 117 (0, 0)) kz12_6 k_ hk⟩))
                  (case aO => exact kz12_4)
                  (case aS => exact (below_size kz12_2))
                  (case aL => have := LMc41.out; omega)
                  intro v436 w55 ho hb hg hat
                  rw [← Ny435.out] at ho
                  have n0_ := Aside0.mk (Kd.V_afterv (ok := (fun k_ => (P0_ k_ ∨ w.heap.size ≤ k_) ∧ k_ ≠ gb409)) (by (with_reducible repeat (first | apply Kd.V_alloc | apply Kd.V_drewN | apply Kd.V_drew)); exact Kd.V_mono HO_0.out (fun _ hk => ⟨⟨hk.1, hk.2.2⟩, hk.2.1⟩)) hg hat)
                  have n1_ := Aside0.mk (blk_grown (g := gb409) (o := .cells #[.bool true, .int .i64 0, .string t432] 117 (0, 0)) kz12_6 hg (Kd.R_away HO_7.out (fun _ hk => hk.2)))
                  have n2_ := Aside0.mk (Kd.V_afterv (ok := (fun k_ => (P0_ k_ ∨ w.heap.size ≤ k_) ∧ k_ ≠ gb409)) (by (with_reducible repeat (first | apply Kd.V_alloc | apply Kd.V_drewN | apply Kd.V_drew)); exact Kd.V_mono HO431.out (fun _ hk => ⟨⟨hk.1, hk.2.2⟩, hk.2.1⟩)) hg hat)
                  have n3_ := Aside0.mk (Kd.V_afterv (ok := (fun k_ => (P0_ k_ ∨ w.heap.size ≤ k_) ∧ k_ ≠ gb409)) (by (with_reducible repeat (first | apply Kd.V_alloc | apply Kd.V_drewN | apply Kd.V_drew)); exact Kd.V_mono HO442.out (fun _ hk => ⟨⟨hk.1, hk.2.2⟩, hk.2.1⟩)) hg hat)
                  have n4_ := Aside0.mk (hb)
                  have n5_ := Aside0.mk (ho)
                  clear HO_0
                  clear BK409
                  clear HO431
                  clear HO442
                  clear HB
                  clear HO_7
                  have HO_0 := n0_
                  have BK409 := n1_
                  have HO431 := n2_
                  have HO442 := n3_
                  have HB := n4_
                  have HO437 := n5_
                  clear n0_ n1_ n2_ n3_ n4_ n5_
                  clear ho hb hg hat
                  refine hK.out _ _ ⟨(blk_cell BK409.out 0).trans rfl, (blk_cell BK409.out 1).trans rfl, (blk_cell BK409.out 2).trans rfl⟩ (fun hHeld => ?_)
                  clear hK K
                  refine norm_ (a' := ?_) ?_ ?_
                  rotate_left
                  ·show Act.put _ (some 63) _ = _
                   simp only [Act.put, sA_, sB_, sC_, i64_w, i32_w]
                   rfl
                  refine pure_ (i := 8) (N := some 7) (v := ?_) (a' := ?_) #[true, true, true, true, true, true, true, true, true, false] rfl rfl (any_of HT_.out (by kernel_rfl)) (fun _ _ _ h => h) (Or.inl ⟨by rfl, ?_⟩) ?_ ?_
                  rotate_left
                  ·intro w'
                   go_simp
                   with_reducible rfl
                  rotate_left
                  ·simp only [Act.put, sA_, sB_, sC_, i64_w, i32_w]
                   rfl
                  refine pure_ (i := 9) (N := some 0) (v := ?_) (a' := ?_) #[true, true, true, true, true, true, true, true, true, true] rfl rfl (any_of HT_.out (by kernel_rfl)) (fun _ _ _ h => h) (Or.inl ⟨by rfl, ?_⟩) ?_ ?_
                  rotate_left
                  ·intro w'
                   go_simp
                   with_reducible rfl
                  rotate_left
                  ·simp only [Act.put, sA_, sB_, sC_, i64_w, i32_w]
                   rfl
                  refine done_ (done_of HT_.out (by kernel_rfl)) ?_
                  try go_wp2
                  go_roundg k2
                  case measure => have := HJ2.out; have := HK2.out; omega
                  case rel => exact ⟨(y438), (y435), (wrap64 (x29_2 + 1)), kz12_11, H', ⟨by have := HJ2.out; have := HK2.out; omega⟩, ⟨by (with_reducible repeat (first | apply Kd.V_alloc | apply Kd.V_drewN | apply Kd.V_drew)); exact Kd.V_mono HO442.out (fun _ hk => ⟨hk.1.1, hk.2⟩)⟩, ⟨by (with_reducible repeat (first | apply Kd.R_alloc | apply Kd.R_drewN | apply Kd.R_drew)); exact Kd.R_mono HO437.out (fun _ hk => hk.1)⟩, ⟨by repeat (first | (with_reducible first | exact HB.out | apply below_alloc | apply pw_below_drewN | apply below_drew1 | refine below_set ?_ GE409.out) | exact HB.out)⟩⟩
                 ·rw [if_neg c44] at H
                  exact absurd H (by simp)
                ·rw [if_neg c43] at H
                 exact absurd H (by simp)
               ·rw [if_neg c41] at H
                exact absurd H (by simp)
              ·rw [if_neg c40] at H
               have c40b0 : (t434 == 0) = false := beq_eq_false_iff_ne.mpr c40
               have c40b1 : (t434 != 0) = true := bne_iff_ne.mpr c40
               simp only [Option.some.injEq, Prod.mk.injEq] at H
               obtain ⟨rfl, rfl⟩ := H
               obtain ⟨Ao56, co56, eo56⟩ := Kd.V_slice HO_0.out
               subst eo56
               go_wp2_with (first | ((with_reducible refine gate_dst (N := 8) rfl ?_); refine box_event ?hg (N := 8) ?hd (cs := #[.bool false, .int .i64 0, .string (⟨#[]⟩ : ByteArray)]) (t := 117) ?hr ?_; (case hd => rfl); (case hg => rfl); (case hr => first | (go_simp; done) | (go_simp; rfl)); intro gb409 hg w57 hbox hb; have n0_ := Aside0.mk (Kd.V_below (Kd.V_elderB kz12_5 gb409 (Nat.le_of_eq hg.symm)) hb); have n1_ := Aside0.mk (Kd.R_below (Kd.R_elderB kz12_4 gb409 (Nat.le_of_eq hg.symm)) hb); have n2_ := Aside0.mk (below_step kz12_1 hb); have n3_ := Aside0.mk (hbox); have n4_ := Aside0.mk ((by rw [hg]; exact (below_size kz12_1) : w.heap.size ≤ gb409)); have n5_ := Aside0.mk ((by rw [hg]; exact (below_size kz12_1) : w.heap.size ≤ gb409)); clear HO_0; clear HO_7; clear HB; have HO_0 := n0_; have HO_7 := n1_; have HB := n2_; have BK409 := n3_; have GW409 := n4_; have GE409 := n5_; clear n0_ n1_ n2_ n3_ n4_ n5_; clear hb hbox hg; have p410 : 0 ≤ (0 : Int) := (by omega); have q410 : 0 < (x0_2.length : Int) := of_decide_eq_true kz12_7; obtain ⟨ad410, e410, hx410_0⟩ := Kd.at_int (Kd.V_reads' HO_0.out).2.2 0 p410 q410; cases e410; have qi410 : (0 < x0_2.length) = True := eq_true (by omega); (try rw [show ((0 : Int)).toNat = 0 from rfl] at hx410_0); (try rw [Addr.add_zero'] at hx410_0); replace p410 := eq_true p410; replace q410 := eq_true q410; have hcz58_0 : w57.cell? ⟨gb409, 0, none⟩ = some (.bool false) := (blk_cell BK409.out 0).trans rfl; have hcz58_1 : w57.cell? ⟨gb409, 1, none⟩ = some (.int .i64 0) := (blk_cell BK409.out 1).trans rfl; have hcz58_2 : w57.cell? ⟨gb409, 2, none⟩ = some (.string (⟨#[]⟩ : ByteArray)) := (blk_cell BK409.out 2).trans rfl; have hfz58_0 := blk_frozen BK409.out 0; have hfz58_1 := blk_frozen BK409.out 1; have hfz58_2 := blk_frozen BK409.out 2) | ((with_reducible refine gate_store (t := 4) (p := 49) rfl ?_); refine store_event (t := 4) (p := 49) (v := ?vo_w59) (w1 := (w57.setCell ⟨gb409, 0, none⟩ (.bool true))) ?hg ?ho ?hn ?hr ?_; (case ho => rfl); (case hg => rfl); (case hn => rfl); (case hr => first | (go_simp; done) | (go_simp; rfl)); intro w59 hw; have n0_ : Aside0 (Kd.V (Kd.int .u8) 5 w59 w.heap.size (fun k_ => (P0_ k_ ∨ w.heap.size ≤ k_) ∧ some k_ ≠ (u7 : Value).ownBlock ∧ k_ ≠ gb409) (.slice (some ad410) x0_2.length co56) x0_2) := ⟨kz12_9⟩; have n1_ : Aside0 (Kd.R k117 117 w59 w.heap.size (fun k_ => (w.heap.size ≤ k_) ∧ k_ ≠ gb409) u7 x7_2) := ⟨kz12_10⟩; have n2_ : Aside0 (w59.heap[gb409]? = some (.cells #[.bool true, .int .i64 0, .string (⟨#[]⟩ : ByteArray)] 117 (0, 0))) := ⟨kz12_8⟩; have n3_ : Aside0 (Below w.heap.size w w59) := ⟨(by rw [hw]; exact kz12_2)⟩; clear hw; clear HO_0; clear HO_7; clear BK409; clear HB; have HO_0 := n0_; have HO_7 := n1_; have BK409 := n2_; have HB := n3_; clear n0_ n1_ n2_ n3_; have q60 : (1 : Int) ≤ ((x0_2.length : Int) : Int) := of_decide_eq_true kz12_7; obtain ⟨i060, hi060, _, hsz60, _⟩ := info_parts info5; have hroom60 : x0_2.length ≤ co56 := (Kd.V_reads' HO_0.out).2.1; have hC60 : Kd.F (Kd.int .u8) _ _ (some ad410) x0_2.length x0_2 := (Kd.V_at (base := w.heap.size) HO_0.out).2.2; have hcut60 := cut_from (P := Try.prog) 50 5 .i64 Try.underlying50 hi060 1 hsz60 (some ad410) x0_2.length co56 1 (by omega) q60; have hr60 := Kd.F_cut (m := (1 : Int).toNat) (c := co56) hC60 (by omega) hroom60; obtain ⟨A60, hA60⟩ : ∃ A1, A1 = (if co56 = (1 : Int).toNat then (some ad410) else ((some ad410) : Option Addr).map (·.add ((1 : Int).toNat * 1))) := ⟨_, rfl⟩; obtain ⟨c60, hc60⟩ : ∃ c1, c1 = co56 - (1 : Int).toNat := ⟨_, rfl⟩; have hy60 : y427.length = x0_2.length - (1 : Int).toNat := (by rw [Ny427.out, List.length_drop] <;> omega); rw [show (x0_2).drop (1 : Int).toNat = y427 from Ny427.out.symm] at hr60; replace hr60 : Kd.F (Kd.int .u8) _ _ A60 y427.length y427 := (by rw [hA60]; exact hr60); rw [← hy60, ← hA60, ← hc60] at hcut60; have HO431 := Aside0.mk (show Kd.V (Kd.int .u8) 5 _ w.heap.size _ (.slice A60 y427.length c60) y427 from Kd.V_mk (by rw [hy60, hc60]; exact Nat.sub_le_sub_right hroom60 _) hr60); have HC431 := Aside0.mk (show y427.length ≤ c60 from by rw [hy60, hc60]; exact Nat.sub_le_sub_right hroom60 _); clear hr60 hC60 hroom60 hi060 hsz60 hc60; have KY60 := Aside0.mk hy60; have KA60 := Aside0.mk hA60; clear hy60 hA60; replace q60 := eq_true q60) | ((with_reducible refine gate_callee (f := 81) rfl ?_); refine goesL_ (some 53) rfl rfl Try.func81 (by kernel_rfl) rfl #[.slice A60 y427.length c60] rfl kz12_3 ?_; (with_reducible refine (tumbrelref01_TakeText.calls k2 _ _ y427 t432 t433 t434 _ ?side1 ?side2 A39.out).mono ?_); (case side1 => repeat (first | exact (Kd.V_reads' HO431.out).2.2 | (with_reducible refine Kd.C_alloc ?_ _) | (with_reducible refine Kd.C_drewN ?_ _) | (with_reducible refine Kd.C_drew ?_))); (case side2 => exact (Kd.V_reads' HO431.out).2.1); rintro e w61 ⟨rfl, hb⟩; refine ⟨_, rfl, ?_⟩; have n0_ := Aside0.mk (Kd.V_below kz12_5 hb); have n1_ := Aside0.mk (Kd.R_below kz12_4 hb); have n2_ := Aside0.mk (Kd.V_below (by (with_reducible repeat (first | apply Kd.V_alloc | apply Kd.V_drewN | apply Kd.V_drew)); exact HO431.out) hb); have n3_ := Aside0.mk (blk_below (g := gb409) (o := .cells #[.bool true, .int .i64 0, .string (⟨#[]⟩ : ByteArray)] 117 (0, 0)) kz12_6 hb); have n4_ := Aside0.mk (below_step kz12_2 hb); clear HO_0; clear HO_7; clear HO431; clear BK409; clear HB; have HO_0 := n0_; have HO_7 := n1_; have HO431 := n2_; have BK409 := n3_; have HB := n4_; clear n0_ n1_ n2_ n3_ n4_; (try clear hb); (try clear hb2); (try clear hk); (try clear hi); have hcz62_0 : w61.cell? ⟨gb409, 0, none⟩ = some (.bool true) := (blk_cell BK409.out 0).trans rfl; have hcz62_1 : w61.cell? ⟨gb409, 1, none⟩ = some (.int .i64 0) := (blk_cell BK409.out 1).trans rfl; have hcz62_2 : w61.cell? ⟨gb409, 2, none⟩ = some (.string (⟨#[]⟩ : ByteArray)) := (blk_cell BK409.out 2).trans rfl; have hfz62_0 := blk_frozen BK409.out 0; have hfz62_1 := blk_frozen BK409.out 1; have hfz62_2 := blk_frozen BK409.out 2))
               go_ret2
               exact ⟨_, by first | rfl | (simp [errW_none, errW_some] <;> rfl) | (simp [*, errW_none, errW_some] <;> rfl), by first | exact Kd.R_nil _ _ _ _ _ | exact Kd.N_nil _ _ _ _ _ | exact Kd.V_nil _ _ _ _ _ | exact Kd.Q_nil _ _ _ _ _ | exact Kd.S_nil _ _ _ _ _, by repeat (first | (with_reducible first | exact HB.out | apply below_alloc | apply pw_below_drewN | apply below_drew1 | refine below_set ?_ GE409.out) | exact HB.out)⟩
             ·rw [if_neg c38] at H
              exact absurd H (by simp)
            ·rw [if_neg c37] at H
             have c37b0 : ((rd x0_2 0) == 2) = false := beq_eq_false_iff_ne.mpr c37
             have c37b1 : ((rd x0_2 0) != 2) = true := bne_iff_ne.mpr c37
             simp only [Option.some.injEq, Prod.mk.injEq] at H
             obtain ⟨rfl, rfl⟩ := H
             obtain ⟨Ao63, co63, eo63⟩ := Kd.V_slice HO_0.out
             subst eo63
             go_wp2_with (first | ((with_reducible refine gate_dst (N := 8) rfl ?_); refine box_event ?hg (N := 8) ?hd (cs := #[.bool false, .int .i64 0, .string (⟨#[]⟩ : ByteArray)]) (t := 117) ?hr ?_; (case hd => rfl); (case hg => rfl); (case hr => first | (go_simp; done) | (go_simp; rfl)); intro gb409 hg w64 hbox hb; have n0_ := Aside0.mk (Kd.V_below (Kd.V_elderB kz12_5 gb409 (Nat.le_of_eq hg.symm)) hb); have n1_ := Aside0.mk (Kd.R_below (Kd.R_elderB kz12_4 gb409 (Nat.le_of_eq hg.symm)) hb); have n2_ := Aside0.mk (below_step kz12_1 hb); have n3_ := Aside0.mk (hbox); have n4_ := Aside0.mk ((by rw [hg]; exact (below_size kz12_1) : w.heap.size ≤ gb409)); have n5_ := Aside0.mk ((by rw [hg]; exact (below_size kz12_1) : w.heap.size ≤ gb409)); clear HO_0; clear HO_7; clear HB; have HO_0 := n0_; have HO_7 := n1_; have HB := n2_; have BK409 := n3_; have GW409 := n4_; have GE409 := n5_; clear n0_ n1_ n2_ n3_ n4_ n5_; clear hb hbox hg; have p410 : 0 ≤ (0 : Int) := (by omega); have q410 : 0 < (x0_2.length : Int) := of_decide_eq_true kz12_7; obtain ⟨ad410, e410, hx410_0⟩ := Kd.at_int (Kd.V_reads' HO_0.out).2.2 0 p410 q410; cases e410; have qi410 : (0 < x0_2.length) = True := eq_true (by omega); (try rw [show ((0 : Int)).toNat = 0 from rfl] at hx410_0); (try rw [Addr.add_zero'] at hx410_0); replace p410 := eq_true p410; replace q410 := eq_true q410))
             go_ret2
             exact ⟨_, by first | rfl | (simp [errW_none, errW_some] <;> rfl) | (simp [*, errW_none, errW_some] <;> rfl), by first | exact Kd.R_nil _ _ _ _ _ | exact Kd.N_nil _ _ _ _ _ | exact Kd.V_nil _ _ _ _ _ | exact Kd.Q_nil _ _ _ _ _ | exact Kd.S_nil _ _ _ _ _, by repeat (first | (with_reducible first | exact HB.out | apply below_alloc | apply pw_below_drewN | apply below_drew1 | refine below_set ?_ GE409.out) | exact HB.out)⟩
          ·rw [if_neg c14] at H
           exact absurd H (by simp)
        ·rw [if_neg c11] at H
         have c11b0 : decide (x29_2 < t401) = false := decide_eq_false c11
         clear c11
         by_cases c65 : (x0_2.length : Int) > 0
         ·rw [if_pos c65] at H
          have c65b0 : decide (0 < (x0_2.length : Int)) = true := decide_eq_true c65
          have c65b1 : decide (0 < x0_2.length) = true := decide_eq_true (by omega)
          clear c65
          simp only [Option.some.injEq, Prod.mk.injEq] at H
          obtain ⟨rfl, rfl⟩ := H
          obtain ⟨Ao66, co66, eo66⟩ := Kd.V_slice HO_0.out
          subst eo66
          go_wp2
          go_ret2
          exact ⟨_, by first | rfl | (simp [errW_none, errW_some] <;> rfl) | (simp [*, errW_none, errW_some] <;> rfl), by first | exact Kd.R_nil _ _ _ _ _ | exact Kd.N_nil _ _ _ _ _ | exact Kd.V_nil _ _ _ _ _ | exact Kd.Q_nil _ _ _ _ _ | exact Kd.S_nil _ _ _ _ _, by repeat (first | (with_reducible first | exact HB.out | apply below_alloc | apply pw_below_drewN | apply below_drew1) | exact HB.out)⟩
         ·rw [if_neg c65] at H
          have c65b0 : decide (0 < (x0_2.length : Int)) = false := decide_eq_false c65
          have c65b1 : decide (0 < x0_2.length) = false := decide_eq_false (by omega)
          clear c65
          simp only [Option.some.injEq, Prod.mk.injEq] at H
          obtain ⟨rfl, rfl⟩ := H
          obtain ⟨Ao67, co67, eo67⟩ := Kd.V_slice HO_0.out
          subst eo67
          go_wp2
          go_ret2
          exact ⟨_, by first | rfl | (simp [errW_none, errW_some] <;> rfl) | (simp [*, errW_none, errW_some] <;> rfl), by (with_reducible repeat (first | apply Kd.R_alloc | apply Kd.R_drewN | apply Kd.R_drew)); exact HO_7.out, by repeat (first | (with_reducible first | exact HB.out | apply below_alloc | apply pw_below_drewN | apply below_drew1) | exact HB.out)⟩
     ·rw [if_neg c9] at H
      exact absurd H (by simp)
    ·rw [if_neg c8] at H
     exact absurd H (by simp)

end Go.Proofs.Ytdglbiafpofeeaa.POutboxDecodes
