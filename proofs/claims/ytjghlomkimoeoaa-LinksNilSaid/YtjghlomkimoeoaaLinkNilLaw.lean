/- LinksNil, walked. -/
import Derived.Test.YtjghlomkimoeoaaLinkAwake
namespace Go.Proofs.Ytjghlomkimoeoaa.Lnk
open Go.RowKit Go.Proofs.YtjghlomkimoeoaaW.PrintWords Go.Proofs.YtjghlomkimoeoaaW.PrintLast Go.Proofs.YtjghlomkimoeoaaW.PrintMore Go.Proofs.Ytjghlomkimoeoaa.PLinksPlay
open Amap Stp
set_option linter.unusedVariables false
set_option linter.unusedSimpArgs false
theorem one_op {W : World} {g : Nat} (x : S60) {A4 : Option Addr} {c4 : Nat} (l4 : x.f4.length ≤ c4) (g4 : Kd.C (Kd.int .u8) W A4 x.f4.length x.f4) (h : W.heap[g]? = some (.cells #[.int .i64 x.f0, .int .i64 x.f1, .int .i64 x.f2, .int .i64 x.f3, .slice A4 x.f4.length c4] 60 (0, 0))) : Kd.C k60 W (some ⟨g, 0, none⟩) 1 [x] := by
  refine ⟨rfl, by decide, fun _ => ⟨_, rfl, fun j p hj => ?_⟩⟩
  cases j with
  | zero =>
    simp at hj
    subst hj
    refine ⟨_, rfl, k60_mk W x l4 g4, fun i u hu => ?_⟩
    have := World.news_of_block h i u hu
    simpa using this
  | succ j => simp at hj
set_option maxHeartbeats 2000000 in
set_option maxRecDepth 100000 in
theorem nil_calls (kd a b c : Int) (A : Option Addr) (cp : Nat) (x : List Int) (w : World) (hC : Kd.C (Kd.int .u8) w A x.length x) (hcp : x.length ≤ cp) :
    Calls Try.prog 8 #[.agg #[.int .i64 kd, .int .i64 a, .int .i64 b, .int .i64 c, .slice A x.length cp]] w fun e w' => e = .returned (.bool true) ∧ Below w.heap.size w w' := by
  obtain ⟨bb, hfew⟩ := few_one ⟨kd, a, b, c, x⟩
  have hone := fun (W : World) (g : Nat) (hC : Kd.C (Kd.int .u8) W A x.length x) (h : W.heap[g]? = some (.cells #[.int .i64 kd, .int .i64 a, .int .i64 b, .int .i64 c, .slice A x.length cp] 60 (0, 0))) => one_op (W := W) (g := g) ⟨kd, a, b, c, x⟩ hcp hC h
  have hfew' := Aside0.mk hfew
  have hone' := Aside0.mk hone
  have hC' := Aside0.mk hC
  clear hfew hone hC
  go_enter Try.func8, Try.ntmps8
  go_wp2_with fail
  refine (awake_calls _).mono ?_
  rintro e w1 ⟨rfl, hb1⟩
  obtain ⟨hc1, hf1⟩ := bcell hb1
  have hb1' : Aside0 (Below w.heap.size w w1) := ⟨below_step (below_alloc (Below.refl _ _) _) hb1⟩
  have hs1 : w.heap.size < w1.heap.size := by have := hb1.size; simp at this; omega
  have hC1 := Aside0.mk (Kd.C_below hC'.out hb1'.out)
  go_wp2_with fail
  refine (hfew'.out _ _ _ (hone'.out _ _ (Kd.C_below hC1.out (below_alloc (Below.refl _ _) _)) (blk_new _ _)) (Nat.le_refl _)).mono ?_
  rintro e w2 ⟨rfl, ⟨m, rfl⟩⟩
  cases bb with
  | false =>
    go_wp2_with fail
    refine (awake_calls _).mono ?_
    rintro e w3 ⟨rfl, hb3⟩
    go_wp2
    go_ret
    exact ⟨rfl, below_step (pw_below_drewN (below_alloc hb1'.out _) m) hb3⟩
  | true =>
    go_wp2_with (first
      | (go_at_call 19; (with_reducible refine (Send_nil _ _ _ _).mono ?_); rintro e w7 ⟨rfl, rfl⟩)
      | (go_at_call 20; (with_reducible refine (Peek_nil _ _ _ _).mono ?_); rintro e w7 ⟨rfl, rfl⟩)
      | (go_at_call 21; (with_reducible refine (Take_nil _ _ _ _).mono ?_); rintro e w7 ⟨rfl, rfl⟩)
      | (go_at_call 22; (with_reducible refine (Count_nil _ _ _).mono ?_); rintro e w7 ⟨rfl, rfl⟩)
      | (go_at_call 23; (with_reducible refine (Total_nil _).mono ?_); rintro e w7 ⟨rfl, rfl⟩)
      | (go_at_call 30; (with_reducible refine (Double_nil _ _ _ _).mono ?_); rintro e w7 ⟨rfl, rfl⟩)
      | (go_at_call 37; (with_reducible refine (Turn_nil _ _ _).mono ?_); rintro e w7 ⟨rfl, rfl⟩)
      | fail)
    go_ret
    exact ⟨rfl, pw_below_drewN (below_alloc hb1'.out _) m⟩
end Go.Proofs.Ytjghlomkimoeoaa.Lnk
