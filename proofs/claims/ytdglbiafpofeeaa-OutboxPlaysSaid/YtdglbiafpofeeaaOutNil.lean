/- OutboxNil, walked. -/
import Derived.Test.YtdglbiafpofeeaaPOutboxNilx3
import Derived.Test.YtdglbiafpofeeaaWMore
import Derived.WalkSpells
import Derived.WalkKit
import Derived.Outline
import Derived.Deep.QuietTactic
import Derived.BigQuiet
namespace Go.Proofs.Ytdglbiafpofeeaa.Out
open Go.RowKit Go.Proofs.YtdglbiafpofeeaaW.PrintWords Go.Proofs.YtdglbiafpofeeaaW.PrintLast Go.Proofs.YtdglbiafpofeeaaW.PrintMore Go.Proofs.Ytdglbiafpofeeaa.POutboxNil
set_option linter.unusedVariables false
set_option linter.unusedSimpArgs false
theorem bcell {W w1 : World} (hb : Below W.heap.size W w1) : (∀ b o, b < W.heap.size → w1.cell? ⟨b, o, none⟩ = W.cell? ⟨b, o, none⟩) ∧ (∀ b o, b < W.heap.size → w1.frozen? ⟨b, o, none⟩ = W.frozen? ⟨b, o, none⟩) :=
  ⟨fun b o h => hb.cell (p := ⟨b, o, none⟩) h, fun b o h => hb.frozen (p := ⟨b, o, none⟩) h⟩
theorem awake_f : tumbrellaw18_awake.f 2000 = some true := by decide +kernel
theorem awake_calls (w : World) : Calls Try.prog 22 #[] w fun e w' => e = .returned (.bool true) ∧ Below w.heap.size w w' := tumbrellaw18_awake.calls 2000 true w awake_f
/-- Few answers, and what it answers yes to has at most 250 elements. -/
theorem few_l0 (l : List S54) (hl : l.length ≤ 9223372036854775806) : ∀ (d i : Nat), l.length ≤ i + d → i ≤ l.length → i ≤ 250 → ∃ b, (b = true → l.length ≤ 250) ∧ ∀ k, d < k → tumbrellaw18_Few.l0 k l (l.length : Int) (i : Int) = some b
  | d, i, h1, h2, h3 => by
    by_cases hlt : i < l.length
    · cases d with
      | zero => omega
      | succ d =>
        by_cases h4 : (i : Int) ≥ 250
        · refine ⟨false, by simp, fun k hk => ?_⟩
          obtain ⟨k, rfl⟩ : ∃ m, k = m + 1 := ⟨k - 1, by omega⟩
          simp only [tumbrellaw18_Few.l0]
          rw [if_pos (by omega), if_pos h4]
        · by_cases h5 : (((rd_T54 l (i : Int)).f2.f3).size : Int) > 1000
          · refine ⟨false, by simp, fun k hk => ?_⟩
            obtain ⟨k, rfl⟩ : ∃ m, k = m + 1 := ⟨k - 1, by omega⟩
            simp only [tumbrellaw18_Few.l0]
            rw [if_pos (by omega), if_neg h4, if_pos (by omega), if_pos (by omega), if_pos h5]
          · obtain ⟨b, hb, hf⟩ := few_l0 l hl d (i + 1) (by omega) (by omega) (by omega)
            refine ⟨b, hb, fun k hk => ?_⟩
            obtain ⟨k, rfl⟩ : ∃ m, k = m + 1 := ⟨k - 1, by omega⟩
            simp only [tumbrellaw18_Few.l0]
            rw [if_pos (by omega), if_neg h4, if_pos (by omega), if_pos (by omega), if_neg h5]
            rw [show wrap64 ((i : Int) + 1) = ((i + 1 : Nat) : Int) from by unfold wrap64; omega]
            exact hf k (by omega)
    · refine ⟨true, fun _ => ?_, fun k hk => ?_⟩
      · omega
      · obtain ⟨k, rfl⟩ : ∃ m, k = m + 1 := ⟨k - 1, by omega⟩
        simp only [tumbrellaw18_Few.l0]
        rw [if_neg (by omega)]
termination_by d => d
theorem few_calls (l : List S54) (hl : l.length ≤ 9223372036854775806) : ∃ b, (b = true → l.length ≤ 250) ∧ ∀ (A : Option Addr) (c : Nat) (w : World), Kd.C k54 w A l.length l → l.length ≤ c →
    Calls Try.prog 23 #[.slice A l.length c] w fun e w' => e = .returned (.bool b) ∧ Drawn0 w w' := by
  obtain ⟨b, hb, hf⟩ := few_l0 l hl l.length 0 (by omega) (by omega) (by omega)
  exact ⟨b, hb, fun A c w hC hc => tumbrellaw18_Few.calls (l.length + 1) A c l b w hC hc (hf _ (by omega))⟩
theorem one_C {W : World} {g : Nat} (x : S54) (h : W.heap[g]? = some (.cells #[.int .i64 x.f0, .int .i64 x.f1, .int .i64 x.f2.f0, .int .i64 x.f2.f1, .int .i64 x.f2.f2, .string x.f2.f3, .int .i64 x.f2.f4, .bool x.f2.f5] 54 (0, 0))) : Kd.C k54 W (some ⟨g, 0, none⟩) 1 [x] := by
  refine ⟨rfl, by decide, fun _ => ⟨_, rfl, fun j p hj => ?_⟩⟩
  cases j with
  | zero =>
    simp at hj
    subst hj
    refine ⟨_, rfl, k54_mk W x, fun i u hu => ?_⟩
    have := World.news_of_block h i u hu
    simpa using this
  | succ j => simp at hj
set_option maxHeartbeats 1000000 in
set_option maxRecDepth 100000 in
theorem Answer_nil (k i t : Int) (s : ByteArray) (a : Int) (o : Bool) (w : World) : Calls Try.prog 24 #[.pointer none, .agg #[.int .i64 k, .int .i64 i, .int .i64 t, .string s, .int .i64 a, .bool o]] w fun e w' =>
    e = .returned (.tuple #[.agg #[.int .i64 0, .int .i64 0, .int .i64 0, .int .i64 0, .string ⟨#[]⟩, .int .i64 0, .bool false], .bool false]) ∧ Below w.heap.size w w' := by
  go_enter Try.func24, Try.ntmps24
  go_wp2
  refine bodyPost_ret (v := .tuple #[.agg #[.int .i64 0, .int .i64 0, .int .i64 0, .int .i64 0, .string ⟨#[]⟩, .int .i64 0, .bool false], .bool false]) (by simp [results, Try.results24, go_sem]) rfl ⟨rfl, ?_⟩
  repeat (first | exact Below.refl _ _ | refine below_alloc ?_ _ | refine Below.setCell ?_ (by simp) _)
set_option maxHeartbeats 1000000 in
set_option maxRecDepth 100000 in
theorem Put_nil (dst k i t : Int) (s : ByteArray) (a : Int) (o : Bool) (w : World) : Calls Try.prog 25 #[.pointer none, .int .i64 dst, .agg #[.int .i64 k, .int .i64 i, .int .i64 t, .string s, .int .i64 a, .bool o]] w fun e w' =>
    e = .returned (.int .i64 1) ∧ Below w.heap.size w w' := by
  go_enter Try.func25, Try.ntmps25
  go_wp2
  go_ret
  exact ⟨rfl, below_alloc (Below.refl _ _) _⟩
set_option maxHeartbeats 1000000 in
set_option maxRecDepth 100000 in
theorem Forget_nil (n : Int) (w : World) : Calls Try.prog 26 #[.pointer none, .int .i64 n] w fun e w' => e = .returned (.int .i64 0) ∧ Below w.heap.size w w' := by
  go_enter Try.func26, Try.ntmps26
  go_wp2
  go_ret
  exact ⟨rfl, below_alloc (Below.refl _ _) _⟩
set_option maxHeartbeats 1000000 in
set_option maxRecDepth 100000 in
theorem All_nil (w : World) : Calls Try.prog 27 #[.pointer none] w fun e w' => e = .returned (.slice none 0 0) ∧ w' = w := by
  go_enter Try.func27, Try.ntmps27
  go_wp2
  go_ret
  exact ⟨rfl, rfl⟩
set_option maxHeartbeats 2000000 in
set_option maxRecDepth 100000 in
theorem nil_calls (kd dst k i t : Int) (s : ByteArray) (a : Int) (o : Bool) (w : World) : Calls Try.prog 8 #[.agg #[.int .i64 kd, .int .i64 dst, .int .i64 k, .int .i64 i, .int .i64 t, .string s, .int .i64 a, .bool o]] w fun e w' =>
    e = .returned (.bool true) ∧ Below w.heap.size w w' := by
  obtain ⟨x, hx⟩ : ∃ x : S54, x = ⟨kd, dst, ⟨k, i, t, s, a, o⟩⟩ := ⟨_, rfl⟩
  obtain ⟨b, _, hfew⟩ := few_calls [x] (by simp)
  have hone := fun (W : World) (g : Nat) (h : W.heap[g]? = some (.cells #[.int .i64 kd, .int .i64 dst, .int .i64 k, .int .i64 i, .int .i64 t, .string s, .int .i64 a, .bool o] 54 (0, 0))) => one_C (W := W) (g := g) x (by rw [hx]; exact h)
  have hfew' := Aside0.mk hfew
  have hone' := Aside0.mk hone
  clear hfew hx hone
  go_enter Try.func8, Try.ntmps8
  go_wp2_with fail
  refine (awake_calls _).mono ?_
  rintro e w1 ⟨rfl, hb1⟩
  obtain ⟨hc1, hf1⟩ := bcell hb1
  have hb1' : Aside0 (Below w.heap.size w w1) := ⟨below_step (below_alloc (Below.refl _ _) _) hb1⟩
  have hs1 : w.heap.size < w1.heap.size := by have := hb1.size; simp at this; omega
  go_wp2_with fail
  refine (hfew'.out _ _ _ (hone'.out _ _ (blk_new _ _)) (Nat.le_refl _)).mono ?_
  rintro e w2 ⟨rfl, ⟨m, rfl⟩⟩
  cases b with
  | false =>
    go_wp2_with fail
    refine (awake_calls _).mono ?_
    rintro e w3 ⟨rfl, hb3⟩
    go_wp2
    go_ret
    exact ⟨rfl, below_step (pw_below_drewN (below_alloc hb1'.out _) m) hb3⟩
  | true =>
    go_wp2_with fail
    refine (Answer_nil _ _ _ _ _ _ _).mono ?_
    rintro e w4 ⟨rfl, hb4⟩
    obtain ⟨hc4, hf4⟩ := bcell hb4
    have hb4' : Aside0 (Below w.heap.size w w4) := ⟨below_step (pw_below_drewN (below_alloc hb1'.out _) m) hb4⟩
    have hs4 : w.heap.size < w4.heap.size := by have := hb4.size; simp at this; omega
    go_wp2_with fail
    refine (Put_nil _ _ _ _ _ _ _ _).mono ?_
    rintro e w5 ⟨rfl, hb5⟩
    obtain ⟨hc5, hf5⟩ := bcell hb5
    have hb5' : Aside0 (Below w.heap.size w w5) := ⟨below_step (below_alloc hb4'.out _) hb5⟩
    have hs5 : w.heap.size < w5.heap.size := by have := hb5.size; simp at this; omega
    go_wp2_with (first
      | (go_at_call 26; (with_reducible refine (Forget_nil _ _).mono ?_); rintro e w6 ⟨rfl, hb6⟩)
      | (go_at_call 27; (with_reducible refine (All_nil _).mono ?_); rintro e w7 ⟨rfl, rfl⟩)
      | fail)
    go_ret
    exact ⟨rfl, below_step hb5'.out hb6⟩
end Go.Proofs.Ytdglbiafpofeeaa.Out
