/- Few, and what the laws of the ledger share. -/
import Derived.Test.YtdglbiafpofeeaaLedCalls
namespace Go.Proofs.Ytdglbiafpofeeaa.Led
open Go.RowKit Go.Proofs.YtdglbiafpofeeaaW.PrintWords Go.Proofs.YtdglbiafpofeeaaW.PrintLast Go.Proofs.YtdglbiafpofeeaaW.PrintMore Go.Proofs.Ytdglbiafpofeeaa.PLedgerPlays
open Amap
set_option linter.unusedVariables false
set_option linter.unusedSimpArgs false

/-- Few answers, and what it answers yes to has at most 400 elements. -/
theorem few_l0 (l : List S32) (hl : l.length ≤ 9223372036854775806) : ∀ (d i : Nat), l.length ≤ i + d → i ≤ l.length → i ≤ 400 → ∃ b, (b = true → l.length ≤ 400) ∧ ∀ k, d < k → tumbrellaw19_Few.l0 k l (l.length : Int) (i : Int) = some b
  | d, i, h1, h2, h3 => by
    by_cases hlt : i < l.length
    · cases d with
      | zero => omega
      | succ d =>
        by_cases h4 : (i : Int) ≥ 400
        · refine ⟨false, by simp, fun k hk => ?_⟩
          obtain ⟨k, rfl⟩ : ∃ m, k = m + 1 := ⟨k - 1, by omega⟩
          simp only [tumbrellaw19_Few.l0]
          rw [if_pos (by omega), if_pos h4]
        · by_cases h5 : (((rd_T32 l (i : Int)).f0.f3).size : Int) > 1000
          · refine ⟨false, by simp, fun k hk => ?_⟩
            obtain ⟨k, rfl⟩ : ∃ m, k = m + 1 := ⟨k - 1, by omega⟩
            simp only [tumbrellaw19_Few.l0]
            rw [if_pos (by omega), if_neg h4, if_pos (by omega), if_pos (by omega), if_pos h5]
          · obtain ⟨b, hb, hf⟩ := few_l0 l hl d (i + 1) (by omega) (by omega) (by omega)
            refine ⟨b, hb, fun k hk => ?_⟩
            obtain ⟨k, rfl⟩ : ∃ m, k = m + 1 := ⟨k - 1, by omega⟩
            simp only [tumbrellaw19_Few.l0]
            rw [if_pos (by omega), if_neg h4, if_pos (by omega), if_pos (by omega), if_neg h5]
            rw [show wrap64 ((i : Int) + 1) = ((i + 1 : Nat) : Int) from by unfold wrap64; omega]
            exact hf k (by omega)
    · refine ⟨true, fun _ => ?_, fun k hk => ?_⟩
      · omega
      · obtain ⟨k, rfl⟩ : ∃ m, k = m + 1 := ⟨k - 1, by omega⟩
        simp only [tumbrellaw19_Few.l0]
        rw [if_neg (by omega)]
termination_by d => d
theorem few_calls (l : List S32) (hl : l.length ≤ 9223372036854775806) : ∃ b, (b = true → l.length ≤ 400) ∧ ∀ (A : Option Addr) (c : Nat) (w : World), Kd.C k32 w A l.length l → l.length ≤ c →
    Calls Try.prog 14 #[.slice A l.length c] w fun e w' => e = .returned (.bool b) ∧ Drawn0 w w' := by
  obtain ⟨b, hb, hf⟩ := few_l0 l hl l.length 0 (by omega) (by omega) (by omega)
  exact ⟨b, hb, fun A c w hC hc => tumbrellaw19_Few.calls (l.length + 1) A c l b w hC hc (hf _ (by omega))⟩

/-- What holds of a ledger while requests come. -/
structure Run (base : Nat) (w : World) (p : Nat) (S : St) (n : Nat) : Prop where
  is : IsLed base w p S
  len : S.L.length ≤ 200
  effs : S.E.length ≤ n
theorem take_effs (S : St) (m : Msg) (acc : Bool) : (take S m acc).1.E.length ≤ S.E.length + 1 := by
  unfold take
  split
  · cases found S (m.inst, m.turn) with
    | none => simp
    | some x =>
      show (if _ then _ else _ : List Eff).length ≤ _
      split <;> simp
  · simp
theorem take_effs_ge (S : St) (m : Msg) (acc : Bool) : S.E.length ≤ (take S m acc).1.E.length := by
  unfold take
  split
  · cases found S (m.inst, m.turn) with
    | none => simp
    | some x =>
      show _ ≤ (if _ then _ else _ : List Eff).length
      split <;> simp
  · simp
theorem Fr.cell28 {T : List Nat} {mp : Bool} {base : Nat} {w w1 : World} (f : Fr T mp base w w1) {b : Nat} {cs : Array Value} {z : Nat × Nat} (hb : w.heap[b]? = some (.cells cs 28 z)) (hT : 28 ∉ T) (i : Nat) : w1.cell? ⟨b, i, none⟩ = w.cell? ⟨b, i, none⟩ := by
  have h := f.same b _ hb hT
  rw [cell_of_row w b i cs 28 z hb, cell_of_row w1 b i cs 28 z h]
theorem cell_below {base : Nat} {w w1 : World} (f : Below base w w1) {a : Addr} {u : Value} (h : a.block < base) (hc : w.cell? a = some u) : w1.cell? a = some u := (f.cell h).trans hc
end Go.Proofs.Ytdglbiafpofeeaa.Led
