/- The document's Formed. -/
import Derived.Test.YtdhlbhkpleoicaaDoorExRSound
namespace Go.Proofs.YtdhlbhkpleoicaaDoor.Exp
open Go.RowKit Go.Proofs.YtdhlbhkpleoicaaDoorW.PrintWords Go.Proofs.YtdhlbhkpleoicaaDoorW.PrintLast Go.Proofs.YtdhlbhkpleoicaaDoorW.PrintMore Go.Proofs.YtdhlbhkpleoicaaDoor.PExprEvals
open Frm
set_option linter.unusedVariables false
set_option linter.unusedSimpArgs false
set_option maxHeartbeats 4000000
set_option maxRecDepth 100000
/-- A clean node as a value: A, c where its parts lie. -/
def nv (e : Ex) (A : Option Addr) (c : Nat) : Value := .agg #[.int .i64 (toN e).f0, .int .i64 (toN e).f1, .string (toN e).f2, .slice A (toN e).f3.length c]
theorem rNodes_calls (e : Ex) (A : Option Addr) (c : Nat) (w : World) (hC : Kd.C k24 w A (toN e).f3.length (toN e).f3) (hc : (toN e).f3.length ≤ c) :
    Calls Tryd.prog 16 #[nv e A c] w fun e' w' => e' = .returned (.int .i64 (nd e)) ∧ Below w.heap.size w w' := by
  obtain ⟨K, hK⟩ := nodes_tot e
  exact tumbrelref04_Nodes.calls K _ _ _ A c _ _ w hC hc (hK K (Nat.le_refl _))
theorem rdeep_calls (e : Ex) (ht : tot e ≤ 40) (A : Option Addr) (c : Nat) (w : World) (hC : Kd.C k24 w A (toN e).f3.length (toN e).f3) (hc : (toN e).f3.length ≤ c) :
    Calls Tryd.prog 24 #[nv e A c] w fun e' w' => e' = .returned (.int .i64 ((dep e : Int) + 1)) ∧ Below w.heap.size w w' := by
  obtain ⟨K, hK⟩ := deep_tot e ht
  exact tumbrelref04_deep.calls K _ _ _ A c _ _ w hC hc (hK K (Nat.le_refl _))
theorem rFormed_calls (e : Ex) (hs : short e) (A : Option Addr) (c : Nat) (w : World) (hC : Kd.C k24 w A (toN e).f3.length (toN e).f3) (hc : (toN e).f3.length ≤ c) (hT : Tabs w) :
    Calls Tryd.prog 14 #[nv e A c] w fun e' w' => e' = .returned (.bool (fmd e)) ∧ Below w.heap.size w w' := by
  have hN := Aside0.mk (fun W (hb : Below w.heap.size w W) => rNodes_calls e A c W (Kd.C_below hC hb) hc)
  have hD := Aside0.mk (fun ht W (hb : Below w.heap.size w W) => rdeep_calls e ht A c W (Kd.C_below hC hb) hc)
  have hS := Aside0.mk (fun W (hb : Below w.heap.size w W) => rsound_tot e hs A c W (Kd.C_below hC hb) hc (hT.below hb))
  unfold nv at hN hD ⊢
  have hF := fmd_eq e
  have hnd : nd e = min (tot e : Int) 41 := rfl
  obtain ⟨n, hn⟩ : ∃ n, nd e = n := ⟨_, rfl⟩
  obtain ⟨t, ht⟩ : ∃ t, tot e = t := ⟨_, rfl⟩
  obtain ⟨d, hd⟩ : ∃ d : Int, (dep e : Int) + 1 = d := ⟨_, rfl⟩
  obtain ⟨sb, hsb⟩ : ∃ b, rsnd e = b := ⟨_, rfl⟩
  obtain ⟨fb, hfb⟩ : ∃ b, fmd e = b := ⟨_, rfl⟩
  rw [hn, ht] at hnd
  rw [hfb, ht, hd, hsb, ← hnd] at hF
  rw [hn] at hN
  rw [hd, ht] at hD
  rw [hsb] at hS
  rw [hfb]
  have hF' := Aside0.mk hF
  clear hC hT hs hn hd hsb hfb hF
  obtain ⟨tn, htn⟩ : ∃ tn, toN e = tn := ⟨_, rfl⟩
  rw [htn] at hN hD hS hc ⊢
  clear htn
  obtain ⟨k, m, s, l⟩ := tn
  simp only [] at hN hD hS hc ⊢
  have hnd' := Aside0.mk hnd
  have hc3 : (Aside0 (n ≤ 40) ∧ decide (n ≤ 40) = true ∧ decide (d ≤ 12) = true ∧ Aside0 (fb = sb)) ∨ (Aside0 (n ≤ 40) ∧ decide (n ≤ 40) = true ∧ decide (d ≤ 12) = false ∧ Aside0 (fb = false)) ∨ (Aside0 (n ≤ n) ∧ decide (n ≤ 40) = false ∧ True ∧ Aside0 (fb = false)) := by
    have hF := hF'.out
    by_cases h1 : n ≤ 40
    · rw [decide_eq_true h1] at hF ⊢
      by_cases h2 : d ≤ 12
      · rw [decide_eq_true h2] at hF ⊢
        exact .inl ⟨⟨h1⟩, rfl, rfl, ⟨hF⟩⟩
      · rw [decide_eq_false h2] at hF ⊢
        exact .inr (.inl ⟨⟨h1⟩, rfl, rfl, ⟨hF⟩⟩)
    · rw [decide_eq_false h1] at hF ⊢
      exact .inr (.inr ⟨⟨Int.le_refl _⟩, rfl, trivial, ⟨hF⟩⟩)
  clear hnd
  rcases hc3 with ⟨h1, d1, d2, hE⟩ | ⟨h1, d1, d2, hE⟩ | ⟨h1, d1, d2, hE⟩
  all_goals
    go_enter Tryd.func14, Tryd.ntmps14
    go_wp2_with (first
      | (go_at_call 16; (with_reducible refine (hN.out _ (by repeat (first | exact Below.refl _ _ | refine below_drew ?_ | refine pw_below_drewN ?_ _ | refine below_alloc ?_ _))).mono ?_); rintro e w1 ⟨rfl, hb1⟩; have hb1' : Aside0 (Below w.heap.size w w1) := ⟨below_step (by repeat (first | exact Below.refl _ _ | refine below_drew ?_ | refine pw_below_drewN ?_ _ | refine below_alloc ?_ _)) hb1⟩; have hX1 := blk_below (w := w.alloc _) (blk_new _ _) hb1; have hX1' := Aside0.mk hX1; obtain ⟨x0, x1, x2, x3, xl⟩ := cells4n hX1; clear hb1 hX1)
      | (go_at_call 24; (with_reducible refine (hD.out (by have := hnd'.out; have := h1.out; omega) _ hb1'.out).mono ?_); rintro e w2 ⟨rfl, hb2⟩; have hb2' : Aside0 (Below w.heap.size w w2) := ⟨below_step hb1'.out hb2⟩; clear x0 x1 x2 x3 xl; obtain ⟨x0, x1, x2, x3, xl⟩ := cells4n (blk_below hX1'.out hb2); clear hb2)
      | (go_at_call 25; (with_reducible refine (hS.out _ hb2'.out).mono ?_); rintro e w3 ⟨rfl, hb3⟩; have hb3' : Aside0 (Below w.heap.size w w3) := ⟨below_step hb2'.out hb3⟩; clear hb3)
      | fail)
    go_ret
    exact ⟨by rw [hE.out]; rfl, by first | exact hb3'.out | exact hb2'.out | exact hb1'.out⟩
theorem clean_ok (x : S24) (A : Option Addr) (c : Nat) (w : World) (hC : Kd.C k24 w A x.f3.length x.f3) (hc : x.f3.length ≤ c) :
    Calls Tryd.prog 12 #[.agg #[.int .i64 x.f0, .int .i64 x.f1, .string x.f2, .slice A x.f3.length c]] w fun e w' => ∃ A' c', e = .returned (nv (theirs x) A' c') ∧
      Kd.C k24 w' A' (toN (theirs x)).f3.length (toN (theirs x)).f3 ∧ (toN (theirs x)).f3.length ≤ c' ∧ Below w.heap.size w w' := Clean_calls x A c w hC hc
end Go.Proofs.YtdhlbhkpleoicaaDoor.Exp
