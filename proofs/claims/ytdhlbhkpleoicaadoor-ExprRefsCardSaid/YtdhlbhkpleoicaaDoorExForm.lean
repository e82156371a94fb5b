/- How many, and whether formed. -/
import Derived.Test.YtdhlbhkpleoicaaDoorExSound2
namespace Go.Proofs.YtdhlbhkpleoicaaDoor.Exp
open Go.RowKit Go.Proofs.YtdhlbhkpleoicaaDoorW.PrintWords Go.Proofs.YtdhlbhkpleoicaaDoorW.PrintLast Go.Proofs.YtdhlbhkpleoicaaDoorW.PrintMore Go.Proofs.YtdhlbhkpleoicaaDoor.PExprEvals
open Frm
set_option linter.unusedVariables false
set_option linter.unusedSimpArgs false
attribute [local go_sem] max2_int min2_int max_two min_two
def fmd (x : Ex) : Bool := decide (cnt x 40 ≤ 40) && snd x 12
theorem Nodes_calls (x : Ex) (w : World) : Calls Tryd.prog 15 #[enc x] w fun e w' => e = .returned (.int .i64 (cnt x 40)) ∧ Below w.heap.size w w' := by
  have hc := Aside0.mk (fun w => count_calls (dep x + 1) x 40 w (by omega) (by omega) (by omega))
  obtain ⟨h1, h2⟩ := cnt_bound x 40 (by omega)
  obtain ⟨n, hn⟩ : ∃ n, cnt x 40 = n := ⟨_, rfl⟩
  rw [hn] at hc h1 h2 ⊢
  obtain ⟨v, hv⟩ : ∃ v, enc x = v := ⟨_, rfl⟩
  have hv1 : v = .nilIface ∨ ∃ t u, v = .iface t u := hv ▸ enc_form x
  rw [hv] at hc ⊢
  have hm : Aside0 (min n 41 = n) := ⟨by omega⟩
  clear hn hv
  rcases hv1 with rfl | ⟨t, u, rfl⟩
  all_goals
    go_enter Tryd.func15, Tryd.ntmps15
    go_wp2_with (first | (go_at_call 26; (with_reducible refine (hc.out _).mono ?_); rintro e w1 ⟨rfl, hb1⟩; have hb1' := Aside0.mk hb1; clear hb1) | fail)
    go_ret
    exact ⟨rfl, hb1'.out⟩
theorem Formed_calls (x : Ex) (w : World) : Calls Tryd.prog 13 #[enc x] w fun e w' => e = .returned (.bool (fmd x)) ∧ Below w.heap.size w w' := by
  have hc := Aside0.mk (fun w => Nodes_calls x w)
  have hs := Aside0.mk (fun w => sound_calls (dep x + 1) x 12 w (by omega))
  unfold fmd
  obtain ⟨n, hn⟩ : ∃ n, cnt x 40 = n := ⟨_, rfl⟩
  rw [hn] at hc ⊢
  obtain ⟨s, hsn⟩ : ∃ s, snd x 12 = s := ⟨_, rfl⟩
  rw [hsn] at hs ⊢
  obtain ⟨v, hv⟩ : ∃ v, enc x = v := ⟨_, rfl⟩
  have hv1 : v = .nilIface ∨ ∃ t u, v = .iface t u := hv ▸ enc_form x
  rw [hv] at hc hs ⊢
  clear hn hv hsn
  by_cases h0 : n ≤ 40
  · have d0 : decide (n ≤ 40) = true := decide_eq_true h0
    rw [d0]
    rcases hv1 with rfl | ⟨t, u, rfl⟩
    all_goals
      go_enter Tryd.func13, Tryd.ntmps13
      go_wp2_with (first | (go_at_call 15; (with_reducible refine (hc.out _).mono ?_); rintro e w1 ⟨rfl, hb1⟩; have hb1' := Aside0.mk hb1; clear hb1) | (go_at_call 23; (with_reducible refine (hs.out _).mono ?_); rintro e w2 ⟨rfl, hb2⟩; have hb2' := Aside0.mk hb2; clear hb2) | fail)
      go_ret
      exact ⟨by simp, below_step hb1'.out hb2'.out⟩
  · have d0 : decide (n ≤ 40) = false := decide_eq_false h0
    rw [d0]
    rcases hv1 with rfl | ⟨t, u, rfl⟩
    all_goals
      go_enter Tryd.func13, Tryd.ntmps13
      go_wp2_with (first | (go_at_call 15; (with_reducible refine (hc.out _).mono ?_); rintro e w1 ⟨rfl, hb1⟩; have hb1' := Aside0.mk hb1; clear hb1) | fail)
      go_ret
      exact ⟨by simp, hb1'.out⟩
end Go.Proofs.YtdhlbhkpleoicaaDoor.Exp
