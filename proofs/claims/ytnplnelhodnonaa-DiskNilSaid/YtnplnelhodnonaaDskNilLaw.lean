/- DiskNil, walked. -/
import Derived.Test.YtnplnelhodnonaaDskAw
namespace Go.Proofs.Ytnplnelhodnonaa.Dsk
open Go.RowKit Go.Proofs.YtnplnelhodnonaaW.PrintWords Go.Proofs.YtnplnelhodnonaaW.PrintLast Go.Proofs.YtnplnelhodnonaaW.PrintMore Go.Proofs.Ytnplnelhodnonaa.PDiskNil
open Amap Frm
set_option linter.unusedVariables false
set_option linter.unusedSimpArgs false
theorem few_one (x : S33) : ∃ b, ∀ (A : Option Addr) (c : Nat) (w : World), Kd.C k33 w A 1 [x] → 1 ≤ c → Calls Try.prog 11 #[.slice A 1 c] w fun e w' => e = .returned (.bool b) ∧ Drawn0 w w' := by
  have hf : ∃ b, tumbrellaw14_Few.f 2 [x] = some b := by
    simp only [tumbrellaw14_Few.f, tumbrellaw14_Few.l0]
    rw [show wrap64 ((0 : Int) + 1) = 1 from by unfold wrap64; omega]
    simp only [List.length_cons, List.length_nil]
    rw [if_pos (by omega), if_pos (by omega), if_pos (by omega), if_neg (by omega)]
    by_cases h : wrap64 (0 + ↑(rd_T33 [x] 0).f4.length) > 50000
    · exact ⟨false, by rw [if_pos h]⟩
    · by_cases h2 : (((rd_T33 [x] 0).f5).length : Int) > 100
      · exact ⟨false, by rw [if_neg h, if_pos h2]⟩
      · exact ⟨true, by rw [if_neg h, if_neg h2, if_neg (by omega)]⟩
  obtain ⟨b, hb⟩ := hf
  exact ⟨b, fun A c w hC hc => tumbrellaw14_Few.calls 2 A c [x] b w hC hc hb⟩
theorem one_op {W : World} {g : Nat} (x : S33) {A4 A5 : Option Addr} {c4 c5 : Nat} (l4 : x.f4.length ≤ c4) (g4 : Kd.C (Kd.int .u8) W A4 x.f4.length x.f4) (l5 : x.f5.length ≤ c5) (g5 : Kd.C (Kd.int .i64) W A5 x.f5.length x.f5) (h : W.heap[g]? = some (.cells #[.int .i64 x.f0, .int .i64 x.f1, .int .i64 x.f2, .int .u8 x.f3, .slice A4 x.f4.length c4, .slice A5 x.f5.length c5] 33 (0, 0))) :
    Kd.C k33 W (some ⟨g, 0, none⟩) 1 [x] := by
  refine ⟨rfl, by decide, fun _ => ⟨_, rfl, fun j p hj => ?_⟩⟩
  cases j with
  | zero =>
    simp at hj
    subst hj
    refine ⟨_, rfl, k33_mk W x l4 g4 l5 g5, fun i u hu => ?_⟩
    have := World.news_of_block h i u hu
    simpa using this
  | succ j => simp at hj
theorem op_cells {w : World} {b : Nat} {k a c y : Int} {u v : Value} (h : w.heap[b]? = some (.cells #[.int .i64 k, .int .i64 a, .int .i64 c, .int .u8 y, u, v] 33 (0, 0))) :
    w.cell? ⟨b, 0, none⟩ = some (.int .i64 k) ∧ w.cell? ⟨b, 1, none⟩ = some (.int .i64 a) ∧ w.cell? ⟨b, 2, none⟩ = some (.int .i64 c) ∧ w.cell? ⟨b, 3, none⟩ = some (.int .u8 y) ∧ w.cell? ⟨b, 4, none⟩ = some u ∧ w.cell? ⟨b, 5, none⟩ = some v :=
  ⟨(blk_cell h 0).trans rfl, (blk_cell h 1).trans rfl, (blk_cell h 2).trans rfl, (blk_cell h 3).trans rfl, (blk_cell h 4).trans rfl, (blk_cell h 5).trans rfl⟩
set_option maxHeartbeats 4000000 in
set_option maxRecDepth 100000 in
theorem nil_calls (kd a b y : Int) (A4 A5 : Option Addr) (c4 c5 : Nat) (x4 x5 : List Int) (w : World) (h4 : Kd.C (Kd.int .u8) w A4 x4.length x4) (l4 : x4.length ≤ c4) (h5 : Kd.C (Kd.int .i64) w A5 x5.length x5) (l5 : x5.length ≤ c5) :
    Calls Try.prog 5 #[.agg #[.int .i64 kd, .int .i64 a, .int .i64 b, .int .u8 y, .slice A4 x4.length c4, .slice A5 x5.length c5]] w fun e w' => e = .returned (.bool true) ∧ Below w.heap.size w w' := by
  obtain ⟨bb, hfew⟩ := few_one ⟨kd, a, b, y, x4, x5⟩
  have hone := fun (W : World) (g : Nat) (k4 : Kd.C (Kd.int .u8) W A4 x4.length x4) (k5 : Kd.C (Kd.int .i64) W A5 x5.length x5) (h : W.heap[g]? = some (.cells #[.int .i64 kd, .int .i64 a, .int .i64 b, .int .u8 y, .slice A4 x4.length c4, .slice A5 x5.length c5] 33 (0, 0))) => one_op (W := W) (g := g) ⟨kd, a, b, y, x4, x5⟩ l4 k4 l5 k5 h
  have hfew' := Aside0.mk hfew
  have hone' := Aside0.mk hone
  have h4' := Aside0.mk h4
  have h5' := Aside0.mk h5
  clear hfew hone h4 h5
  go_enter Try.func5, Try.ntmps5
  go_wp2_with fail
  refine (awake_calls _).mono ?_
  rintro e w1 ⟨rfl, hb1⟩
  have hop := blk_below (blk_new w (.cells #[.int .i64 kd, .int .i64 a, .int .i64 b, .int .u8 y, .slice A4 x4.length c4, .slice A5 x5.length c5] 33)) hb1
  obtain ⟨o0, o1, o2, o3, o4, o5⟩ := op_cells hop
  have hop' := Aside0.mk hop
  have hb1' : Aside0 (Below w.heap.size w w1) := ⟨below_step (below_alloc (Below.refl _ _) _) hb1⟩
  have hs1 : w.heap.size < w1.heap.size := by have := hb1.size; simp at this; omega
  have k4 := Aside0.mk (Kd.C_below h4'.out hb1'.out)
  have k5 := Aside0.mk (Kd.C_below h5'.out hb1'.out)
  clear hop hb1
  go_wp2_with fail
  refine (hfew'.out _ _ _ (hone'.out _ _ (Kd.C_below k4.out (below_alloc (Below.refl _ _) _)) (Kd.C_below k5.out (below_alloc (Below.refl _ _) _)) (blk_new _ _)) (Nat.le_refl _)).mono ?_
  rintro e w2 ⟨rfl, ⟨m, rfl⟩⟩
  cases bb with
  | false =>
    go_wp2_with fail
    refine (awake_calls _).mono ?_
    rintro e w3 ⟨rfl, hb3⟩
    go_wp2
    go_ret
    exact ⟨rfl, below_step (pw_below_drewN (below_alloc hb1'.out _) m) hb3⟩
  | true =>
    have hB2 : Below w1.heap.size w1 ((w1.alloc (.cells #[.int .i64 kd, .int .i64 a, .int .i64 b, .int .u8 y, .slice A4 x4.length c4, .slice A5 x5.length c5] 33)).drewN m) := pw_below_drewN (below_alloc (Below.refl _ _) _) m
    clear o0 o1 o2 o3 o4 o5
    obtain ⟨o0, o1, o2, o3, o4, o5⟩ := op_cells (blk_below hop'.out hB2)
    have hB2' := Aside0.mk hB2
    clear hB2
    go_wp2_with (first
      | (go_at_call 21; (with_reducible refine (SetFuse_nil _ _).mono ?_); rintro e w7 ⟨rfl, rfl⟩)
      | (go_at_call 22; (with_reducible refine (SetRoom_nil _ _).mono ?_); rintro e w7 ⟨rfl, rfl⟩)
      | (go_at_call 19; (with_reducible refine (Crash_nil _ _ _ _).mono ?_); rintro e w7 ⟨rfl, rfl⟩)
      | (go_at_call 17; (with_reducible refine (Read_nil _ _).mono ?_); rintro e w7 ⟨rfl, rfl⟩)
      | (go_at_call 23; (with_reducible refine (Append_nil _ _ _ _ _).mono ?_); rintro e w7 ⟨rfl, rfl⟩)
      | (go_at_call 24; (with_reducible refine (Sync_nil _ _).mono ?_); rintro e w7 ⟨rfl, rfl⟩)
      | (go_at_call 25; (with_reducible refine (Drop_nil _ _).mono ?_); rintro e w7 ⟨rfl, rfl⟩)
      | (go_at_call 26; (with_reducible refine (Spoil_nil _ _ _ _).mono ?_); rintro e w7 ⟨rfl, rfl⟩)
      | (go_at_call 27; (with_reducible refine (Used_nil _).mono ?_); rintro e w7 ⟨rfl, rfl⟩)
      | (go_at_call 16; (with_reducible refine (Segments_nil _).mono ?_); rintro e w7 ⟨rfl, rfl⟩)
      | (go_at_call 18; (with_reducible refine (Synced_nil _ _).mono ?_); rintro e w7 ⟨rfl, rfl⟩)
      | (go_at_call 20; (with_reducible refine (Down_nil _).mono ?_); rintro e w7 ⟨rfl, rfl⟩)
      | fail)
    go_ret
    exact ⟨rfl, pw_below_drewN (below_alloc hb1'.out _) m⟩
end Go.Proofs.Ytnplnelhodnonaa.Dsk
