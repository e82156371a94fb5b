/- LedgerNil, walked. -/
import Derived.Test.YtdglbiafpofeeaaLedFew
import Derived.Outline
namespace Go.Proofs.Ytdglbiafpofeeaa.Led
open Go.RowKit Go.Proofs.YtdglbiafpofeeaaW.PrintWords Go.Proofs.YtdglbiafpofeeaaW.PrintLast Go.Proofs.YtdglbiafpofeeaaW.PrintMore Go.Proofs.Ytdglbiafpofeeaa.PLedgerPlays
open Amap
set_option linter.unusedVariables false
set_option linter.unusedSimpArgs false

set_option maxHeartbeats 2000000 in
set_option maxRecDepth 100000 in
theorem Take_nil (k i t : Int) (s : ByteArray) (a : Int) (o acc : Bool) (w : World) : Calls Try.prog 16 #[.pointer none, .agg #[.int .i64 k, .int .i64 i, .int .i64 t, .string s, .int .i64 a, .bool o], .bool acc] w fun e w' =>
    e = .returned (.tuple #[.agg #[.int .i64 0, .int .i64 0, .int .i64 0, .string ⟨#[]⟩, .int .i64 0, .bool false], .bool false]) ∧ Below w.heap.size w w' := by
  go_enter Try.func16, Try.ntmps16
  go_wp2
  refine bodyPost_ret (v := .tuple #[.agg #[.int .i64 0, .int .i64 0, .int .i64 0, .string ⟨#[]⟩, .int .i64 0, .bool false], .bool false]) (by simp [results, Try.results16, go_sem]) rfl ⟨rfl, ?_⟩
  repeat (first | exact Below.refl _ _ | refine below_alloc ?_ _ | refine Below.setCell ?_ (by simp) _)
set_option maxHeartbeats 2000000 in
set_option maxRecDepth 100000 in
theorem Effects_nil (w : World) : Calls Try.prog 17 #[.pointer none] w fun e w' => e = .returned (.slice none 0 0) ∧ w' = w := by
  go_enter Try.func17, Try.ntmps17
  go_wp2
  go_ret
  exact ⟨rfl, rfl⟩
set_option maxHeartbeats 2000000 in
set_option maxRecDepth 100000 in
theorem Len_nil (w : World) : Calls Try.prog 19 #[.pointer none] w fun e w' => e = .returned (.int .i64 0) ∧ w' = w := by
  go_enter Try.func19, Try.ntmps19
  go_wp2
  go_ret
  exact ⟨rfl, rfl⟩
theorem one_C {W : World} {g : Nat} (x : S32) (h : W.heap[g]? = some (.cells #[.int .i64 x.f0.f0, .int .i64 x.f0.f1, .int .i64 x.f0.f2, .string x.f0.f3, .int .i64 x.f0.f4, .bool x.f0.f5, .bool x.f1] 32 (0, 0))) : Kd.C k32 W (some ⟨g, 0, none⟩) 1 [x] := by
  refine ⟨rfl, by decide, fun _ => ⟨_, rfl, fun j p hj => ?_⟩⟩
  cases j with
  | zero =>
    simp at hj
    subst hj
    refine ⟨_, rfl, k32_mk W x, fun i u hu => ?_⟩
    have := World.news_of_block h i u hu
    simpa using this
  | succ j => simp at hj
set_option maxHeartbeats 4000000 in
set_option maxRecDepth 100000 in
theorem nil_calls (k i t : Int) (s : ByteArray) (a : Int) (o acc : Bool) (w : World) : Calls Try.prog 7 #[.agg #[.int .i64 k, .int .i64 i, .int .i64 t, .string s, .int .i64 a, .bool o, .bool acc]] w fun e w' =>
    e = .returned (.bool true) ∧ Below w.heap.size w w' := by
  obtain ⟨x, hx⟩ : ∃ x : S32, x = ⟨⟨k, i, t, s, a, o⟩, acc⟩ := ⟨_, rfl⟩
  obtain ⟨b, _, hfew⟩ := few_calls [x] (by simp)
  have hone := fun (W : World) (g : Nat) (h : W.heap[g]? = some (.cells #[.int .i64 k, .int .i64 i, .int .i64 t, .string s, .int .i64 a, .bool o, .bool acc] 32 (0, 0))) => one_C (W := W) (g := g) x (by rw [hx]; exact h)
  have heq : ∀ W : World, (binOp .eql 28 (.agg #[.int .i64 0, .int .i64 0, .int .i64 0, .string ⟨#[]⟩, .int .i64 0, .bool false]) (.agg #[.int .i64 0, .int .i64 0, .int .i64 0, .string ⟨#[]⟩, .int .i64 0, .bool false])).run Try.prog W = .ok (.bool true) W := fun W => by kernel_rfl
  have hfew' := Aside0.mk hfew
  have hone' := Aside0.mk hone
  clear hfew hx hone
  go_enter Try.func7, Try.ntmps7
  go_wp2_with fail
  refine (awake_calls _).mono ?_
  rintro e w1 ⟨rfl, hb1⟩
  obtain ⟨hc1, hf1⟩ := bcell hb1
  have hb1' : Aside0 (Below w.heap.size w w1) := ⟨below_step (below_alloc (Below.refl _ _) _) hb1⟩
  have hs1 : w.heap.size < w1.heap.size := by have := hb1.size; simp at this; omega
  go_wp2_with fail
  refine (hfew'.out _ _ _ (hone'.out _ _ (blk_new _ _)) (Nat.le_refl _)).mono ?_
  rintro e w2 ⟨rfl, ⟨m, rfl⟩⟩
  cases b with
  | false =>
    go_wp2_with fail
    refine (awake_calls _).mono ?_
    rintro e w3 ⟨rfl, hb3⟩
    go_wp2
    go_ret
    exact ⟨rfl, below_step (pw_below_drewN (below_alloc hb1'.out _) m) hb3⟩
  | true =>
    go_wp2_with fail
    refine (Take_nil _ _ _ _ _ _ _ _).mono ?_
    rintro e w4 ⟨rfl, hb4⟩
    obtain ⟨hc4, hf4⟩ := bcell hb4
    have hb4' : Aside0 (Below w.heap.size w w4) := ⟨below_step (pw_below_drewN (below_alloc hb1'.out _) m) hb4⟩
    go_wp2_with (first
      | (go_at_call 17; (with_reducible refine (Effects_nil _).mono ?_); rintro e w5 ⟨rfl, rfl⟩)
      | (go_at_call 19; (with_reducible refine (Len_nil _).mono ?_); rintro e w6 ⟨rfl, rfl⟩)
      | fail)
    go_ret
    exact ⟨rfl, below_alloc hb4'.out _⟩
end Go.Proofs.Ytdglbiafpofeeaa.Led
