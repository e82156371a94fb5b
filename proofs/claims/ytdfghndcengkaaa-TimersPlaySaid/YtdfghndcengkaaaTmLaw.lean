/- TimersPlay, walked. -/
import Derived.Test.YtdfghndcengkaaaTmBoth
namespace Go.Proofs.Ytdfghndcengkaaa.Tmr
open Go.RowKit Go.Proofs.YtdfghndcengkaaaW.PrintWords Go.Proofs.YtdfghndcengkaaaW.PrintLast Go.Proofs.YtdfghndcengkaaaW.PrintMore Go.Proofs.Ytdfghndcengkaaa.PTimersPlay
open Amap Frm
set_option linter.unusedVariables false
set_option linter.unusedSimpArgs false
theorem few_l0 (l : List S35) (hl : l.length ≤ 9223372036854775806) : ∀ (d i : Nat), l.length ≤ i + d → i ≤ l.length → i ≤ 200 → (∀ j : Nat, j < i → (rd_T35 l (j : Int)).f1.size ≤ 200) →
    ∃ b, (b = true → l.length ≤ 200 ∧ ∀ j : Nat, j < l.length → (rd_T35 l (j : Int)).f1.size ≤ 200) ∧ ∀ k, d < k → tumbrellaw16_few.l0 k l (l.length : Int) (i : Int) = some b
  | d, i, h1, h2, h3, h5 => by
    by_cases hlt : i < l.length
    · cases d with
      | zero => omega
      | succ d =>
        by_cases h6 : (i : Int) ≥ 200
        · refine ⟨false, by simp, fun k hk => ?_⟩
          obtain ⟨k, rfl⟩ : ∃ m, k = m + 1 := ⟨k - 1, by omega⟩
          simp only [tumbrellaw16_few.l0]
          rw [if_pos (by omega), if_pos h6]
        · by_cases h7 : ((rd_T35 l (i : Int)).f1.size : Int) > 200
          · refine ⟨false, by simp, fun k hk => ?_⟩
            obtain ⟨k, rfl⟩ : ∃ m, k = m + 1 := ⟨k - 1, by omega⟩
            simp only [tumbrellaw16_few.l0]
            rw [if_pos (by omega), if_neg h6, if_pos (by omega), if_pos (by omega), if_pos h7]
          · obtain ⟨b, hb, hf⟩ := few_l0 l hl d (i + 1) (by omega) (by omega) (by omega) (fun j hj => by
              by_cases e : j = i
              · subst e; omega
              · exact h5 j (by omega))
            refine ⟨b, hb, fun k hk => ?_⟩
            obtain ⟨k, rfl⟩ : ∃ m, k = m + 1 := ⟨k - 1, by omega⟩
            simp only [tumbrellaw16_few.l0]
            rw [if_pos (by omega), if_neg h6, if_pos (by omega), if_pos (by omega), if_neg h7]
            rw [show wrap64 ((i : Int) + 1) = ((i + 1 : Nat) : Int) from by unfold wrap64; omega]
            exact hf k (by omega)
    · refine ⟨true, fun _ => ⟨by omega, fun j hj => h5 j (by omega)⟩, fun k hk => ?_⟩
      obtain ⟨k, rfl⟩ : ∃ m, k = m + 1 := ⟨k - 1, by omega⟩
      simp only [tumbrellaw16_few.l0]
      rw [if_neg (by omega)]
termination_by d => d
theorem few_calls (l : List S35) (hl : l.length ≤ 9223372036854775806) : ∃ b, (b = true → l.length ≤ 200 ∧ ∀ x ∈ l, x.f1.size ≤ 200) ∧ ∀ (A : Option Addr) (c : Nat) (w : World), Kd.C k35 w A l.length l → l.length ≤ c →
    Calls Try.prog 5 #[.slice A l.length c] w fun e w' => e = .returned (.bool b) ∧ Drawn0 w w' := by
  obtain ⟨b, hb, hf⟩ := few_l0 l hl l.length 0 (by omega) (by omega) (by omega) (fun j hj => absurd hj (by omega))
  refine ⟨b, fun e => ⟨(hb e).1, fun x hx => ?_⟩, fun A c w hC hc => tumbrellaw16_few.calls (l.length + 1) A c l b w hC hc (hf _ (by omega))⟩
  obtain ⟨j, hj, e2⟩ := List.getElem_of_mem hx
  have := (hb e).2 j hj
  simpa [rd_T35, List.getD_eq_getElem?_getD, List.getElem?_eq_getElem hj, e2] using this
theorem same_l0 (l : List ByteArray) (hl : l.length ≤ 1000) : ∀ (d i : Nat), l.length ≤ i + d → i ≤ l.length → ∀ k, d < k → tumbrellaw16_same.l0 k l l (l.length : Int) (i : Int) = some true
  | d, i, h1, h2, k, hk => by
    obtain ⟨k, rfl⟩ : ∃ m, k = m + 1 := ⟨k - 1, by omega⟩
    simp only [tumbrellaw16_same.l0]
    by_cases hlt : i < l.length
    · cases d with
      | zero => omega
      | succ d =>
        rw [if_pos (by omega), if_pos (by omega), if_pos (by omega), if_pos (by omega), if_pos trivial]
        rw [show wrap64 ((i : Int) + 1) = ((i + 1 : Nat) : Int) from by unfold wrap64; omega]
        exact same_l0 l hl d (i + 1) (by omega) (by omega) k (by omega)
    · rw [if_neg (by omega)]
termination_by d => d
theorem same_calls (G : List ByteArray) (hl : G.length ≤ 1000) (A : Option Addr) (c : Nat) (A2 : Option Addr) (c2 : Nat) (w : World) (h1 : Kd.C Kd.string w A G.length G) (h2 : G.length ≤ c) (h3 : Kd.C Kd.string w A2 G.length G) (h4 : G.length ≤ c2) :
    Calls Try.prog 11 #[.slice A G.length c, .slice A2 G.length c2] w fun e w' => e = .returned (.bool true) ∧ Drawn0 w w' :=
  tumbrellaw16_same.calls (G.length + 1) A c G A2 c2 G true w h1 h2 h3 h4 (by
    unfold tumbrellaw16_same.f
    rw [if_pos rfl]
    exact same_l0 G hl G.length 0 (by omega) (by omega) _ (by omega))
set_option maxHeartbeats 4000000 in
set_option maxRecDepth 100000 in
theorem awake_calls (w : World) : Calls Try.prog 4 #[] w fun e w' => e = .returned (.bool true) ∧ Below w.heap.size w w' := by
  have HD : timers_Delay.f 3 2 = some 4 := by decide +kernel
  obtain ⟨W, hW⟩ : ∃ W, w.alloc (.cells #[.map none] 33) = W := ⟨_, rfl⟩
  have h0 : IsT (fun k => w.heap.size ≤ k) W w.heap.size [] := by rw [← hW]; exact new_is _ w (fun k hk => hk)
  have hbW : Below w.heap.size w W := by rw [← hW]; exact below_alloc (Below.refl _ _) _
  have hs := Aside0.mk (Set_calls [] _ w.heap.size W h0 (fun k hk => Nat.le_trans hbW.size hk) ⟨#[97]⟩ 5 (by show (1 : Nat) ≤ 200; omega) (by show (Lit.int .i64 5).wf = true; decide))
  have hbW' := Aside0.mk hbW
  have hN := New_calls w
  rw [hW] at hN
  clear h0 hbW hW
  go_enter Try.func4, Try.ntmps4
  go_wp2_with (first
    | (go_at_call 6; (with_reducible refine hN.mono ?_); rintro e w1 ⟨rfl, rfl⟩)
    | (go_at_call 7; (with_reducible refine hs.out.mono ?_); rintro e w2 ⟨rfl, h2, f2⟩; have hL := Len_calls _ _ _ w2 h2; have f2' := Aside0.mk f2; clear h2 f2)
    | (go_at_call 17; (with_reducible refine hL.mono ?_); rintro e w3 ⟨rfl, rfl⟩)
    | (go_at_call 18; (with_reducible refine (timers_Delay.calls 3 2 4 _ HD).mono ?_); rintro e w4 ⟨rfl, hb4⟩)
    | go_in)
  go_ret
  exact ⟨rfl, below_step (hbW'.out.trans (f2'.out.up hbW'.out.size)) hb4⟩
end Go.Proofs.Ytdfghndcengkaaa.Tmr
