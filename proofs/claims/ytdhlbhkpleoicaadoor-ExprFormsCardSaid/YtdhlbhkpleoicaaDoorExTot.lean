/- How many, how deep, how sound: over plain trees, as the document counts. -/
import Derived.Test.YtdhlbhkpleoicaaDoorExClean
namespace Go.Proofs.YtdhlbhkpleoicaaDoor.Exp
open Go.RowKit Go.Proofs.YtdhlbhkpleoicaaDoorW.PrintWords Go.Proofs.YtdhlbhkpleoicaaDoorW.PrintLast Go.Proofs.YtdhlbhkpleoicaaDoorW.PrintMore Go.Proofs.YtdhlbhkpleoicaaDoor.PExprEvals
open Frm
set_option linter.unusedVariables false
set_option linter.unusedSimpArgs false
def tot : Ex → Nat
  | .not x => tot x + 1
  | .neg x => tot x + 1
  | .bin _ l r => tot l + tot r + 1
  | _ => 1
theorem cnt_tot : ∀ (x : Ex) (left : Int), 0 ≤ left → cnt x left = min (tot x : Int) (left + 1)
  | .none, left, h => by simp only [cnt, tot]; omega
  | .lit _, left, h => by simp only [cnt, tot]; omega
  | .ref _, left, h => by simp only [cnt, tot]; omega
  | .not x, left, h => by
    simp only [cnt, tot]
    split
    · rw [cnt_tot x (left - 1) (by omega)]; omega
    · omega
  | .neg x, left, h => by
    simp only [cnt, tot]
    split
    · rw [cnt_tot x (left - 1) (by omega)]; omega
    · omega
  | .bin op l r, left, h => by
    simp only [cnt, tot]
    by_cases h1 : 1 ≤ left
    · rw [if_pos h1, cnt_tot l (left - 1) (by omega)]
      split
      · rename_i h3
        rw [cnt_tot r _ (by omega)]
        omega
      · omega
    · rw [if_neg h1, if_neg (by omega)]; omega
def rsnd : Ex → Bool
  | .none => false
  | .lit n => decide (0 ≤ n ∧ n ≤ 1000000000)
  | .ref s => isName s
  | .not x => rsnd x
  | .neg x => rsnd x
  | .bin op l r => isOp op && rsnd l && rsnd r
theorem wrap_pred (k : Int) (h0 : 0 < k) (h1 : k ≤ 1000) : wrap64 (k - 1) = k - 1 := by unfold wrap64; omega
theorem snd_split : ∀ (x : Ex) (k : Int), 0 ≤ k → k ≤ 1000 → (snd x k = true ↔ (dep x : Int) + 1 ≤ k ∧ rsnd x = true)
  | .none, k, h0, h1 => by simp [snd, rsnd]
  | .lit n, k, h0, h1 => by
    simp only [snd, rsnd, dep, decide_eq_true_eq]
    omega
  | .ref s, k, h0, h1 => by
    simp only [snd, rsnd, dep, decide_eq_true_eq, Bool.and_eq_true]
    constructor <;> (rintro ⟨a, b⟩; exact ⟨by omega, b⟩)
  | .not x, k, h0, h1 => by
    simp only [snd, rsnd, dep, decide_eq_true_eq, Bool.and_eq_true]
    by_cases hk : 0 < k
    · rw [wrap_pred k hk h1, snd_split x (k - 1) (by omega) (by omega)]
      constructor
      · rintro ⟨a, b, c⟩; exact ⟨by omega, c⟩
      · rintro ⟨b, c⟩; exact ⟨hk, by omega, c⟩
    · constructor
      · rintro ⟨a, b⟩; exact absurd a hk
      · rintro ⟨b, c⟩; omega
  | .neg x, k, h0, h1 => by
    simp only [snd, rsnd, dep, decide_eq_true_eq, Bool.and_eq_true]
    by_cases hk : 0 < k
    · rw [wrap_pred k hk h1, snd_split x (k - 1) (by omega) (by omega)]
      constructor
      · rintro ⟨a, b, c⟩; exact ⟨by omega, c⟩
      · rintro ⟨b, c⟩; exact ⟨hk, by omega, c⟩
    · constructor
      · rintro ⟨a, b⟩; exact absurd a hk
      · rintro ⟨b, c⟩; omega
  | .bin op l r, k, h0, h1 => by
    simp only [snd, rsnd, dep, decide_eq_true_eq, Bool.and_eq_true]
    by_cases hk : 0 < k
    · rw [wrap_pred k hk h1, snd_split l (k - 1) (by omega) (by omega), snd_split r (k - 1) (by omega) (by omega)]
      constructor
      · rintro ⟨⟨⟨o, a⟩, b, c⟩, b2, c2⟩; exact ⟨by omega, ⟨o, c⟩, c2⟩
      · rintro ⟨b, ⟨o, c⟩, c2⟩; exact ⟨⟨⟨o, hk⟩, by omega, c⟩, by omega, c2⟩
    · constructor
      · rintro ⟨⟨⟨o, a⟩, b⟩, c⟩; exact absurd a hk
      · rintro ⟨b, c⟩; omega
theorem fmd_eq (x : Ex) : fmd x = (decide (min (tot x : Int) 41 ≤ 40) && decide ((dep x : Int) + 1 ≤ 12) && rsnd x) := by
  unfold fmd
  rw [cnt_tot x 40 (by omega), Bool.eq_iff_iff]
  simp only [Bool.and_eq_true, decide_eq_true_eq]
  rw [snd_split x 12 (by omega) (by omega)]
  constructor
  · rintro ⟨a, b, c⟩; exact ⟨⟨a, b⟩, c⟩
  · rintro ⟨⟨a, b⟩, c⟩; exact ⟨a, b, c⟩
/-- The strings are short. -/
inductive AllS : S24 → Prop
  | mk (x : S24) : x.f2.size ≤ 1000 → (∀ y ∈ x.f3, AllS y) → AllS x
theorem AllS.size {x : S24} (h : AllS x) : x.f2.size ≤ 1000 := by cases h; assumption
theorem AllS.parts {x : S24} (h : AllS x) : ∀ y ∈ x.f3, AllS y := by cases h; assumption
def short : Ex → Prop
  | .ref s => s.size ≤ 1000
  | .not x => short x
  | .neg x => short x
  | .bin _ l r => short l ∧ short r
  | _ => True
theorem short_part (x : S24) (i : Nat) (h : ∀ y ∈ x.f3, short (theirs y)) : short (part x i) := by
  unfold part
  split
  · exact h _ (List.getElem_mem _)
  · trivial
theorem short_theirs : ∀ (m : Nat) (x : S24), SizeOf.sizeOf x < m → AllS x → short (theirs x)
  | 0, x, h, _ => by omega
  | m + 1, x, h, hs => by
    have ih : ∀ y ∈ x.f3, short (theirs y) := fun y hy => short_theirs m y (by have := mem_size hy; omega) (hs.parts y hy)
    rw [theirs_eq]
    repeat' split
    all_goals first | exact hs.size | trivial | exact short_part x 0 ih | exact ⟨short_part x 0 ih, short_part x 1 ih⟩
theorem smallS_loop (x : S24) (n : Nat) (hn : n ≤ 1000) (hlen : x.f3.length ≤ 9223372036854775807)
    (Q : ∀ y ∈ x.f3, ∀ depth left : Int, 0 ≤ left → left ≤ n → ∃ (r : Int) (K : Nat), r ≤ left - 1 ∧ (0 ≤ r → AllS y) ∧ ∀ k, K ≤ k → tumbrelref04_small.f k y.f0 y.f1 y.f2 y.f3 depth left = some r) :
    ∀ (d i : Nat) (depth left : Int), x.f3.length ≤ i + d → i ≤ x.f3.length → 0 ≤ left → left ≤ n → ∃ (r : Int) (K : Nat), r ≤ left ∧ (0 ≤ r → ∀ j, i ≤ j → ∀ hj : j < x.f3.length, AllS x.f3[j]) ∧ ∀ k, K ≤ k → tumbrelref04_small.l0 k depth left (x.f3.length : Int) (i : Int) x.f0 x.f1 x.f2 x.f3 = some r
  | d, i, depth, left, h1, h2, h3, h4 => by
    by_cases hlt : i < x.f3.length
    · cases d with
      | zero => omega
      | succ d =>
        have hrd : rd_T24 x.f3 (i : Int) = x.f3[i] := by simp [rd_T24, List.getD_eq_getElem?_getD, hlt]
        obtain ⟨t, K, ht, hts, hK⟩ := Q x.f3[i] (List.getElem_mem hlt) (wrap64 (depth + 1)) left h3 h4
        by_cases hneg : t < 0
        · refine ⟨-1, K + 1, by omega, fun h => absurd h (by omega), fun k hk => ?_⟩
          obtain ⟨k, rfl⟩ : ∃ m, k = m + 1 := ⟨k - 1, by omega⟩
          simp only [tumbrelref04_small.l0]
          rw [if_pos (by omega), if_pos (by omega), if_pos (by omega), hrd, hK k (by omega), Option.bind_some, if_pos hneg]
        · obtain ⟨r, K2, hr, hrs, hK2⟩ := smallS_loop x n hn hlen Q d (i + 1) depth t (by omega) (by omega) (by omega) (by omega)
          refine ⟨r, K + K2 + 1, by omega, fun h j hj hl => ?_, fun k hk => ?_⟩
          · rcases Nat.eq_or_lt_of_le hj with e | e
            · subst e; exact hts (by omega)
            · exact hrs h j e hl
          obtain ⟨k, rfl⟩ : ∃ m, k = m + 1 := ⟨k - 1, by omega⟩
          simp only [tumbrelref04_small.l0]
          rw [if_pos (by omega), if_pos (by omega), if_pos (by omega), hrd, hK k (by omega), Option.bind_some, if_neg hneg, show wrap64 ((i : Int) + 1) = ((i + 1 : Nat) : Int) from by unfold wrap64; omega]
          exact hK2 k (by omega)
    · refine ⟨left, 1, by omega, fun h j hj hl => absurd hl (by omega), fun k hk => ?_⟩
      obtain ⟨k, rfl⟩ : ∃ m, k = m + 1 := ⟨k - 1, by omega⟩
      simp only [tumbrelref04_small.l0]
      rw [if_neg (by omega)]
termination_by d => d
theorem smallS_tot : ∀ (n : Nat), n ≤ 1000 → ∀ (x : S24), okN n x → ∀ depth left : Int, 0 ≤ left → left ≤ n → ∃ (r : Int) (K : Nat), r ≤ left - 1 ∧ (0 ≤ r → AllS x) ∧ ∀ k, K ≤ k → tumbrelref04_small.f k x.f0 x.f1 x.f2 x.f3 depth left = some r
  | n, hn, x, hx, depth, left, h3, h4 => by
    have hw : wrap64 (left - 1) = left - 1 := by unfold wrap64; omega
    by_cases hneg : left - 1 < 0
    · refine ⟨-1, 3, by omega, fun h => absurd h (by omega), fun k hk => ?_⟩
      obtain ⟨k, rfl⟩ : ∃ m, k = m + 2 := ⟨k - 2, by omega⟩
      simp only [tumbrelref04_small.f, tumbrelref04_small.j0, hw, if_pos hneg]
      split <;> simp
    · cases n with
      | zero => omega
      | succ n =>
        obtain ⟨hl, hy⟩ := hx
        obtain ⟨r, K, hr, hrs, hK⟩ := smallS_loop x n (by omega) hl (fun y hm depth left h3 h4 => smallS_tot n (by omega) y (hy y hm) depth left h3 h4) x.f3.length 0 depth (left - 1) (by omega) (by omega) (by omega) (by omega)
        by_cases hd : depth > 60
        · refine ⟨-1, 3, by omega, fun h => absurd h (by omega), fun k hk => ?_⟩
          obtain ⟨k, rfl⟩ : ∃ m, k = m + 2 := ⟨k - 2, by omega⟩
          simp only [tumbrelref04_small.f, tumbrelref04_small.j0, hw, if_pos hd]
          simp
        · by_cases hs : (x.f2.size : Int) > 1000
          · refine ⟨-1, 3, by omega, fun h => absurd h (by omega), fun k hk => ?_⟩
            obtain ⟨k, rfl⟩ : ∃ m, k = m + 2 := ⟨k - 2, by omega⟩
            simp only [tumbrelref04_small.f, tumbrelref04_small.j0, hw, if_neg hd, if_neg hneg, decide_eq_true hs]
            simp
          · refine ⟨r, K + 2, by omega, fun h => ?_, fun k hk => ?_⟩
            · refine AllS.mk x (by omega) (fun y hy => ?_)
              obtain ⟨j, hj⟩ := List.getElem?_of_mem hy
              have hl := (List.getElem?_eq_some_iff.1 hj).1
              have := hrs h j (Nat.zero_le _) hl
              rwa [(List.getElem?_eq_some_iff.1 hj).2] at this
            obtain ⟨k, rfl⟩ : ∃ m, k = m + 2 := ⟨k - 2, by omega⟩
            simp only [tumbrelref04_small.f, tumbrelref04_small.j0, hw, if_neg hd, if_neg hneg, decide_eq_false hs]
            rw [if_neg (by decide)]
            exact hK k (by omega)
/-- Small answers; and if it says yes, all strings are short. -/
theorem SmallS_calls (x : S24) (hx : okN 200 x) : ∃ b : Bool, (b = true → short (theirs x)) ∧ ∀ (A : Option Addr) (c : Nat) (w : World), Kd.C k24 w A x.f3.length x.f3 → x.f3.length ≤ c →
    Calls Tryd.prog 7 #[.agg #[.int .i64 x.f0, .int .i64 x.f1, .string x.f2, .slice A x.f3.length c]] w fun e w' => e = .returned (.bool b) ∧ Below w.heap.size w w' := by
  obtain ⟨r, K, _, hs, hK⟩ := smallS_tot 200 (by omega) x hx 0 200 (by omega) (by omega)
  refine ⟨decide (r ≥ 0), fun h => short_theirs _ x (Nat.lt_succ_self _) (hs (by simpa using h)), fun A c w hC hc => ?_⟩
  exact tumbrelref04_Small.calls K x.f0 x.f1 x.f2 A c x.f3 (decide (r ≥ 0)) w hC hc (by unfold tumbrelref04_Small.f; rw [hK K (Nat.le_refl _)]; rfl)
end Go.Proofs.YtdhlbhkpleoicaaDoor.Exp
