/- The document's names: rune by rune, by the library's decoder. -/
import Derived.Test.YtdhlbhkpleoicaaDoorExName
import Derived.Test.YtdhlbhkpleoicaaDoorExLay
import Derived.Lib.RuneCountTail
import Derived.Lib.QuoteLoop
namespace Go.Proofs.YtdhlbhkpleoicaaDoor.Exp
open Go.RowKit Go.Proofs.YtdhlbhkpleoicaaDoorW.PrintWords Go.Proofs.YtdhlbhkpleoicaaDoorW.PrintLast Go.Proofs.YtdhlbhkpleoicaaDoorW.PrintMore Go.Proofs.YtdhlbhkpleoicaaDoor.PExprEvals
set_option linter.unusedVariables false
set_option linter.unusedSimpArgs false
theorem rletter_f (r : Int) : tumbrelref03_Letter.f r = some (letterB r) := by
  unfold tumbrelref03_Letter.f letterB
  repeat' split
  all_goals simp only [Option.some.injEq]
  all_goals first | (symm; rw [decide_eq_true_eq]; omega) | (symm; rw [decide_eq_false_iff_not]; omega) | (rw [decide_eq_decide]; omega)
theorem rdigit_f (r : Int) : tumbrelref03_digit.f r = some (digitB r) := by
  unfold tumbrelref03_digit.f digitB
  repeat' split
  all_goals simp only [Option.some.injEq]
  all_goals first | (symm; rw [decide_eq_true_eq]; omega) | (symm; rw [decide_eq_false_iff_not]; omega) | (rw [decide_eq_decide]; omega)
theorem rinside_f (r : Int) : tumbrelref03_inside.f r = some (insideB r) := by
  unfold tumbrelref03_inside.f insideB
  rw [rletter_f, rdigit_f]
  cases letterB r <;> cases digitB r <;> simp
/-- A rune and its width; -1 where there is none. -/
def nxR (s : ByteArray) : Int := if (Lib.decodeGo s).1 = 65533 ∧ (Lib.decodeGo s).2 ≤ 1 then -1 else (Lib.decodeGo s).1
set_option maxHeartbeats 1000000 in
set_option maxRecDepth 100000 in
theorem next_calls (s : ByteArray) (w : World) (hT : Tabs w) : Calls Tryd.prog 55 #[.string s] w fun e w' => e = .returned (.tuple #[.int .i32 (nxR s), .int .i64 (Lib.decodeGo s).2]) ∧ Below w.heap.size w w' := by
  have hD := Aside0.mk (fun W (hb : Below w.heap.size w W) => decode_calls s W (hT.below hb))
  unfold nxR
  obtain ⟨R, hR⟩ : ∃ R, (Lib.decodeGo s).1 = R := ⟨_, rfl⟩
  obtain ⟨n, hn⟩ : ∃ n, (Lib.decodeGo s).2 = n := ⟨_, rfl⟩
  rw [hR, hn] at hD ⊢
  clear hT hR hn
  by_cases h1 : R = 65533
  · by_cases h2 : n ≤ 1
    · rw [if_pos ⟨h1, h2⟩]
      have d1 : ((R : Int) == 65533) = true := by rw [h1]; rfl
      have d2 : decide ((n : Int) ≤ 1) = true := decide_eq_true (by omega)
      clear h1 h2
      go_enter Tryd.func55, Tryd.ntmps55
      go_wp2_with (first | (go_at_call 62; (with_reducible refine (hD.out _ (by repeat (first | exact Below.refl _ _ | refine below_drew ?_ | refine pw_below_drewN ?_ _))).mono ?_); rintro e w1 ⟨rfl, hb1⟩; have hb1' := Aside0.mk hb1; clear hb1) | fail)
      go_ret2
      exact ⟨rfl, hb1'.out⟩
    · rw [if_neg (fun h => h2 h.2)]
      have d1 : ((R : Int) == 65533) = true := by rw [h1]; rfl
      have d2 : decide ((n : Int) ≤ 1) = false := decide_eq_false (by omega)
      clear h1 h2
      go_enter Tryd.func55, Tryd.ntmps55
      go_wp2_with (first | (go_at_call 62; (with_reducible refine (hD.out _ (by repeat (first | exact Below.refl _ _ | refine below_drew ?_ | refine pw_below_drewN ?_ _))).mono ?_); rintro e w1 ⟨rfl, hb1⟩; have hb1' := Aside0.mk hb1; clear hb1) | fail)
      go_ret2
      exact ⟨rfl, hb1'.out⟩
  · rw [if_neg (fun h => h1 h.1)]
    have d1 : ((R : Int) == 65533) = false := by simp; omega
    clear h1
    go_enter Tryd.func55, Tryd.ntmps55
    go_wp2_with (first | (go_at_call 62; (with_reducible refine (hD.out _ (by repeat (first | exact Below.refl _ _ | refine below_drew ?_ | refine pw_below_drewN ?_ _))).mono ?_); rintro e w1 ⟨rfl, hb1⟩; have hb1' := Aside0.mk hb1; clear hb1) | fail)
    go_ret2
    exact ⟨rfl, hb1'.out⟩
end Go.Proofs.YtdhlbhkpleoicaaDoor.Exp
