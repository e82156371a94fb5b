/- TimersDelays: the plain law. -/
import Derived.Test.YtjghlomkimoeoaaPTimersDelaysx1
namespace Go.Proofs.Ytjghlomkimoeoaa.Pure
open Go.RowKit Go.Proofs.Ytjghlomkimoeoaa.PTimersDelays Go.Proofs.YtjghlomkimoeoaaW.PrintWords Go.Proofs.YtjghlomkimoeoaaW.PrintLast

def D (a : Int) : Int := if a < 1 then 0 else if a = 1 then 2 else if a = 2 then 4 else if a = 3 then 8 else if a = 4 then 16 else if a = 5 then 32 else 40
theorem wrap_id {n : Int} (h0 : -9223372036854775808 ≤ n) (h1 : n < 9223372036854775808) : wrap64 n = n := by unfold wrap64; omega
theorem ite_pos {α : Type} {c : Prop} [Decidable c] {a b : Nat → Option α} {r : α} (hc : c) (h : Ev a r) : Ev (fun k => if c then a k else b k) r := Ev.congr (fun _ => if_pos hc) h
theorem ite_neg {α : Type} {c : Prop} [Decidable c] {a b : Nat → Option α} {r : α} (hc : ¬ c) (h : Ev b r) : Ev (fun k => if c then a k else b k) r := Ev.congr (fun _ => if_neg hc) h
theorem delay_on (a d : Int) (r : Int) (h1 : 1 < a) (hm : a ≤ 9223372036854775807) (h2 : d < 40) (h3 : 0 ≤ d) (h : Ev (fun k => timers_Delay.l0 k (a - 1) (d * 2)) r) : Ev (fun k => timers_Delay.l0 k a d) r :=
  Ev.step (fun k => by rw [timers_Delay.l0, if_pos h1, if_pos h2, wrap_id (by omega) (by omega), wrap_id (by omega) (by omega)]) h
theorem delay_end (a d : Int) (h1 : 1 ≤ a) (h2 : a = 1 ∨ 40 ≤ d) : Ev (fun k => timers_Delay.l0 k a d) (mn d 40) := by
  refine Ev.step (fun k => by rw [timers_Delay.l0]) ?_
  by_cases h : a > 1
  · exact ite_pos h (ite_neg (by omega) (ite_neg (by omega) (Ev.now _)))
  · exact ite_neg h (ite_neg (by omega) (Ev.now _))
theorem delay_f (a : Int) (hm : a ≤ 9223372036854775807) : Ev (fun k => timers_Delay.f k a) (D a) := by
  unfold timers_Delay.f
  by_cases h0 : a < 1
  · have hD : D a = 0 := by unfold D; rw [if_pos h0]
    rw [hD]
    refine Ev.step (fun k => by rw [timers_Delay.l0]) ?_
    exact ite_neg (by omega) (ite_pos h0 (Ev.now _))
  by_cases h1 : a = 1
  · subst h1; exact delay_end 1 2 (by omega) (by omega)
  refine delay_on _ _ _ (by omega) (by omega) (by omega) (by omega) ?_
  by_cases h2 : a = 2
  · subst h2; exact delay_end _ _ (by omega) (by omega)
  refine delay_on _ _ _ (by omega) (by omega) (by omega) (by omega) ?_
  by_cases h3 : a = 3
  · subst h3; exact delay_end _ _ (by omega) (by omega)
  refine delay_on _ _ _ (by omega) (by omega) (by omega) (by omega) ?_
  by_cases h4 : a = 4
  · subst h4; exact delay_end _ _ (by omega) (by omega)
  refine delay_on _ _ _ (by omega) (by omega) (by omega) (by omega) ?_
  by_cases h5 : a = 5
  · subst h5; exact delay_end _ _ (by omega) (by omega)
  refine delay_on _ _ _ (by omega) (by omega) (by omega) (by omega) ?_
  have hD : D a = 40 := by unfold D; rw [if_neg h0, if_neg h1, if_neg h2, if_neg h3, if_neg h4, if_neg h5]
  rw [hD]
  exact delay_end _ _ (by omega) (by omega)
theorem ref_on (a d i : Int) (r e : Int) (h1 : i < a) (hm : a ≤ 9223372036854775807) (h0 : 0 ≤ i) (h2 : d < 40) (h3 : 0 ≤ d) (he : mn (2 * d) 40 = e) (h : Ev (fun k => tumbrelref16_Delay.l0 k a e (i + 1)) r) : Ev (fun k => tumbrelref16_Delay.l0 k a d i) r :=
  Ev.step (fun k => by rw [tumbrelref16_Delay.l0, if_pos h1, if_pos h2, wrap_id (n := 2 * d) (by omega) (by omega), wrap_id (n := i + 1) (by omega) (by omega), he]) h
theorem ref_end (a d i : Int) (h2 : a ≤ i ∨ 40 ≤ d) : Ev (fun k => tumbrelref16_Delay.l0 k a d i) d := by
  refine Ev.step (fun k => by rw [tumbrelref16_Delay.l0]) ?_
  by_cases h : i < a
  · exact ite_pos h (ite_neg (by omega) (Ev.now _))
  · exact ite_neg h (Ev.now _)
theorem ref_f (a : Int) (hm : a ≤ 9223372036854775807) : Ev (fun k => tumbrelref16_Delay.f k a) (D a) := by
  unfold tumbrelref16_Delay.f
  by_cases h0 : a < 1
  · have hD : D a = 0 := by unfold D; rw [if_pos h0]
    rw [hD]
    exact ite_pos h0 (Ev.now _)
  refine ite_neg h0 ?_
  by_cases h1 : a = 1
  · subst h1; exact ref_end 1 2 1 (by omega)
  refine ref_on _ _ _ _ 4 (by omega) (by omega) (by omega) (by omega) (by omega) (by decide) ?_
  by_cases h2 : a = 2
  · subst h2; exact ref_end _ _ _ (by omega)
  refine ref_on _ _ _ _ 8 (by omega) (by omega) (by omega) (by omega) (by omega) (by decide) ?_
  by_cases h3 : a = 3
  · subst h3; exact ref_end _ _ _ (by omega)
  refine ref_on _ _ _ _ 16 (by omega) (by omega) (by omega) (by omega) (by omega) (by decide) ?_
  by_cases h4 : a = 4
  · subst h4; exact ref_end _ _ _ (by omega)
  refine ref_on _ _ _ _ 32 (by omega) (by omega) (by omega) (by omega) (by omega) (by decide) ?_
  by_cases h5 : a = 5
  · subst h5; exact ref_end _ _ _ (by omega)
  refine ref_on _ _ _ _ 40 (by omega) (by omega) (by omega) (by omega) (by omega) (by decide) ?_
  have hD : D a = 40 := by unfold D; rw [if_neg h0, if_neg h1, if_neg h2, if_neg h3, if_neg h4, if_neg h5]
  rw [hD]
  exact ref_end _ _ _ (by omega)
theorem D_range (a : Int) : 0 ≤ D a ∧ D a ≤ 40 := by unfold D; repeat' split <;> omega
theorem D_mono (a b : Int) (h : a ≤ b) : D a ≤ D b := by unfold D; repeat' (first | omega | split)
theorem TimersDelays : tumbrellaw16_TimersDelays.Pure := by
  intro a ha
  have hr : -9223372036854775808 ≤ a ∧ a ≤ 9223372036854775807 := by
    simp [Lit.wf, IntKind.min, IntKind.max, IntKind.signed, IntKind.bits] at ha
    omega
  refine Ev.rounds (g := fun k => tumbrellaw16_TimersDelays.f k a) ?_
  have h2 : -9223372036854775808 ≤ Int.tdiv a 2 ∧ Int.tdiv a 2 ≤ 9223372036854775807 ∧ (Int.tdiv a 2 ≤ a ∨ Int.tdiv a 2 ≤ 0) := by
    rcases Int.le_total 0 a with h | h
    · rw [Int.tdiv_eq_ediv_of_nonneg h]; omega
    · have e : Int.tdiv a 2 = -((-a) / 2) := by
        rw [← Int.tdiv_eq_ediv_of_nonneg (by omega), Int.neg_tdiv, Int.neg_neg]
      rw [e]; omega
  have e0 : Ev (fun k => (tumbrellaw16_awake.f)) true := Ev.now true
  refine Ev.bind (delay_f a hr.2) (Ev.bind e0 (ite_pos rfl (Ev.bind (ref_f a hr.2) (ite_pos rfl (ite_pos (D_range a).1 (ite_pos (D_range a).2 ?_))))))
  rw [wrap_id (by omega) (by omega)]
  refine Ev.bind (delay_f _ h2.2.1) (Ev.bind (delay_f 0 (by omega)) (Ev.congr (fun _ => ?_) (Ev.now true)))
  have h0 : D 0 = 0 := rfl
  rw [h0]
  congr 1
  rw [decide_eq_true_eq]
  have := D_range a
  have hmx : D a ≤ mx (D a) 0 := by unfold mx; split <;> omega
  rcases h2.2.2 with h | h
  · exact Int.le_trans (D_mono _ _ h) hmx
  · have := D_mono _ _ h
    rw [h0] at this
    omega

end Go.Proofs.Ytjghlomkimoeoaa.Pure
