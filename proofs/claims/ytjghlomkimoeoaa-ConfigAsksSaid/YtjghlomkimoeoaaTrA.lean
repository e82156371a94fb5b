/- ConfigAsks: Leaves, Over, Start. -/
import Derived.Test.YtjghlomkimoeoaaTrV
namespace Go.Proofs.Ytjghlomkimoeoaa.Tr
open Go.RowKit Go.Proofs.YtjghlomkimoeoaaW.PrintWords Go.Proofs.YtjghlomkimoeoaaW.PrintLast Go.Proofs.YtjghlomkimoeoaaW.PrintMore Go.Proofs.Ytjghlomkimoeoaa.PConfigAsks
set_option linter.unusedVariables false
set_option linter.unusedSimpArgs false
variable {s : Sh}
/-- The active leaves from i on. -/
def lf (s : Sh) (av : List Int) : Nat → Nat → List Int
  | 0, _ => []
  | d + 1, i => (if s.leaf i = true ∧ (i : Int) ∈ av then [(i : Int)] else []) ++ lf s av d (i + 1)
theorem lf_len (av : List Int) : ∀ d i, (lf s av d i).length ≤ d
  | 0, _ => Nat.le_refl _
  | d + 1, i => by
    have := lf_len av d (i + 1)
    rw [lf, List.length_append]
    split
    · simp; omega
    · simp; omega
theorem lf_mem (av : List Int) : ∀ d i, ∀ x ∈ lf s av d i, (i : Int) ≤ x ∧ x < ((i + d : Nat) : Int)
  | 0, i, x, hx => by cases hx
  | d + 1, i, x, hx => by
    rw [lf] at hx
    rcases List.mem_append.mp hx with h | h
    · split at h
      · rw [List.mem_singleton] at h
        omega
      · cases h
    · have := lf_mem av d (i + 1) x h
      omega
def lvI (s : Sh) (av : List Int) : List Int := if formedB s = true then lf s av s.n 0 else []
theorem lvI_len (av : List Int) : (lvI s av).length ≤ 40 := by
  unfold lvI
  split
  · rename_i h
    have h1 := ((formedB_iff s).mp h).le
    have := lf_len (s := s) av s.n 0
    omega
  · exact Nat.zero_le _
theorem lvI_mem (av : List Int) : ∀ x ∈ lvI s av, 0 ≤ x ∧ x < (s.n : Int) := by
  unfold lvI
  split
  · intro x hx
    have := lf_mem av s.n 0 x hx
    omega
  · intro x hx
    cases hx
theorem leaves_yes (l : List S86) (hf : formedB (sh l) = true) (av : List Int) (has : av.length ≤ 1000) : ∀ (d i : Nat) (acc : List Int), i + d = l.length → acc.length ≤ i →
    Ev (fun k => config_Leaves.l0 k l av acc l (l.length : Int) (i : Int)) (acc ++ lf (sh l) av d i)
  | 0, i, acc, hd, hacc => by
    refine ⟨1, fun k hk => ?_⟩
    obtain ⟨k, rfl⟩ : ∃ m, k = m + 1 := ⟨k - 1, by omega⟩
    dsimp only
    rw [config_Leaves.l0, if_neg (by omega)]
    simp [lf]
  | d + 1, i, acc, hd, hacc => by
    have h40 : l.length ≤ 40 := ((formedB_iff _).mp hf).le
    obtain ⟨K0, hF⟩ := Formed_ev l
    obtain ⟨K1, hC⟩ := Contains_ev av (i : Int) has
    obtain ⟨K2, h2⟩ := leaves_yes l hf av has d (i + 1) (acc ++ [(i : Int)]) (by omega) (by simp; omega)
    obtain ⟨K3, h3⟩ := leaves_yes l hf av has d (i + 1) acc (by omega) (by omega)
    dsimp only at hF hC h2 h3
    rw [hf] at hF
    refine ⟨K0 + K1 + K2 + K3 + 1, fun k hk => ?_⟩
    obtain ⟨k, rfl⟩ : ∃ m, k = m + 1 := ⟨k - 1, by omega⟩
    dsimp only
    have hlf : (sh l).leaf i = (rd_T86 l (i : Int)).f6 := rfl
    rw [config_Leaves.l0, if_pos (by omega), if_pos (by omega), if_pos (by omega), lf, hlf]
    by_cases c1 : (rd_T86 l (i : Int)).f6 = true
    · rw [if_pos c1, hC k (by omega), Option.bind_some]
      by_cases c2 : (i : Int) ∈ av
      · rw [decide_eq_true c2, if_pos rfl, hF k (by omega), Option.bind_some, if_pos rfl, if_pos (by omega), wsucc (by omega), h2 k (by omega), if_pos ⟨c1, c2⟩, List.append_assoc]
      · rw [decide_eq_false c2, if_neg (by decide), wsucc (by omega), h3 k (by omega), if_neg (fun e => c2 e.2), List.nil_append]
    · rw [if_neg c1, wsucc (by omega), h3 k (by omega), if_neg (fun e => c1 e.1), List.nil_append]
theorem leaves_no (l : List S86) (hl : l.length ≤ 1000) (hf : formedB (sh l) = false) (av : List Int) (has : av.length ≤ 1000) : ∀ (d i : Nat), i + d = l.length →
    Ev (fun k => config_Leaves.l0 k l av [] l (l.length : Int) (i : Int)) []
  | 0, i, hd => by
    refine ⟨1, fun k hk => ?_⟩
    obtain ⟨k, rfl⟩ : ∃ m, k = m + 1 := ⟨k - 1, by omega⟩
    dsimp only
    rw [config_Leaves.l0, if_neg (by omega)]
  | d + 1, i, hd => by
    obtain ⟨K0, hF⟩ := Formed_ev l
    obtain ⟨K1, hC⟩ := Contains_ev av (i : Int) has
    obtain ⟨K3, h3⟩ := leaves_no l hl hf av has d (i + 1) (by omega)
    dsimp only at hF hC h3
    rw [hf] at hF
    refine ⟨K0 + K1 + K3 + 1, fun k hk => ?_⟩
    obtain ⟨k, rfl⟩ : ∃ m, k = m + 1 := ⟨k - 1, by omega⟩
    dsimp only
    rw [config_Leaves.l0, if_pos (by omega), if_pos (by omega), if_pos (by omega)]
    by_cases c1 : (rd_T86 l (i : Int)).f6 = true
    · rw [if_pos c1, hC k (by omega), Option.bind_some]
      by_cases c2 : (i : Int) ∈ av
      · rw [decide_eq_true c2, if_pos rfl, hF k (by omega), Option.bind_some, if_neg (by decide), wsucc (by omega), h3 k (by omega)]
      · rw [decide_eq_false c2, if_neg (by decide), wsucc (by omega), h3 k (by omega)]
    · rw [if_neg c1, wsucc (by omega), h3 k (by omega)]
theorem Leaves_ev (l : List S86) (hl : l.length ≤ 1000) (av : List Int) (has : av.length ≤ 1000) : Ev (fun k => config_Leaves.f k l av) (lvI (sh l) av) := by
  unfold lvI
  cases hf : formedB (sh l) with
  | true =>
    rw [if_pos rfl]
    obtain ⟨K, hK⟩ := leaves_yes l hf av has l.length 0 [] (by omega) (Nat.le_refl _)
    exact ⟨K, fun k hk => hK k hk⟩
  | false =>
    rw [if_neg (by decide)]
    obtain ⟨K, hK⟩ := leaves_no l hl hf av has l.length 0 (by omega)
    exact ⟨K, fun k hk => hK k hk⟩
theorem rleaves_from (l : List S140) (h40 : l.length ≤ 40) (av : List Int) (has : av.length ≤ 1000) : ∀ (d i : Nat) (acc : List Int), i + d = l.length → acc.length ≤ i →
    Ev (fun k => tumbrelref09_Leaves.l0 k l av acc (l.length : Int) (i : Int)) (acc ++ lf (shr l) av d i)
  | 0, i, acc, hd, hacc => by
    refine ⟨1, fun k hk => ?_⟩
    obtain ⟨k, rfl⟩ : ∃ m, k = m + 1 := ⟨k - 1, by omega⟩
    dsimp only
    rw [tumbrelref09_Leaves.l0, if_neg (by omega)]
    simp [lf]
  | d + 1, i, acc, hd, hacc => by
    obtain ⟨K1, hC⟩ := has_ev av (i : Int) has
    obtain ⟨K2, h2⟩ := rleaves_from l h40 av has d (i + 1) (acc ++ [(i : Int)]) (by omega) (by simp; omega)
    obtain ⟨K3, h3⟩ := rleaves_from l h40 av has d (i + 1) acc (by omega) (by omega)
    dsimp only at hC h2 h3
    refine ⟨K1 + K2 + K3 + 1, fun k hk => ?_⟩
    obtain ⟨k, rfl⟩ : ∃ m, k = m + 1 := ⟨k - 1, by omega⟩
    dsimp only
    have hlf : (shr l).leaf i = (rd_T140 l (i : Int)).f6 := rfl
    rw [tumbrelref09_Leaves.l0, if_pos (by omega), hC k (by omega), Option.bind_some, lf, hlf]
    by_cases c2 : (i : Int) ∈ av
    · rw [decide_eq_true c2, if_pos rfl, if_pos (by omega), if_pos (by omega)]
      by_cases c1 : (rd_T140 l (i : Int)).f6 = true
      · rw [if_pos c1, if_pos (by omega), wsucc (by omega), h2 k (by omega), if_pos ⟨c1, c2⟩, List.append_assoc]
      · rw [if_neg c1, wsucc (by omega), h3 k (by omega), if_neg (fun e => c1 e.1), List.nil_append]
    · rw [decide_eq_false c2, if_neg (by decide), wsucc (by omega), h3 k (by omega), if_neg (fun e => c2 e.2), List.nil_append]
theorem rLeaves_ev (l : List S140) (av : List Int) (has : av.length ≤ 1000) : Ev (fun k => tumbrelref09_Leaves.f k l av) (lvI (shr l) av) := by
  obtain ⟨K, hF⟩ := rFormed_ev l
  dsimp only at hF
  unfold lvI
  cases hf : formedB (shr l) with
  | true =>
    rw [hf] at hF
    rw [if_pos rfl]
    obtain ⟨K1, h1⟩ := rleaves_from l ((formedB_iff _).mp hf).le av has l.length 0 [] (by omega) (Nat.le_refl _)
    dsimp only at h1
    refine ⟨K + K1, fun k hk => ?_⟩
    dsimp only
    rw [tumbrelref09_Leaves.f, hF k (by omega), Option.bind_some, if_pos rfl]
    exact h1 k (by omega)
  | false =>
    rw [hf] at hF
    rw [if_neg (by decide)]
    refine ⟨K, fun k hk => ?_⟩
    dsimp only
    rw [tumbrelref09_Leaves.f, hF k (by omega), Option.bind_some, if_neg (by decide)]
/-! ### Over: e tells which states are ends -/
theorem over_drop (l : List S86) (row : List Int) (hr : ∀ x ∈ row, 0 ≤ x ∧ x < (l.length : Int)) (hlen : row.length ≤ 1000) : ∀ d j : Nat, j + d = row.length →
    Ev (fun k => config_Over.l0 k l row (row.length : Int) (j : Int)) ((row.drop j).all fun x => (rd_T86 l x).f5)
  | 0, j, hd => by
    refine ⟨1, fun k hk => ?_⟩
    obtain ⟨k, rfl⟩ : ∃ m, k = m + 1 := ⟨k - 1, by omega⟩
    dsimp only
    rw [config_Over.l0, if_neg (by omega), List.drop_eq_nil_of_le (by omega)]
    rfl
  | d + 1, j, hd => by
    have hj : j < row.length := by omega
    have hrd : rd row (j : Int) = row[j] := rd_get row j hj
    obtain ⟨h0, h1⟩ := hr row[j] (List.getElem_mem hj)
    rw [List.drop_eq_getElem_cons hj, List.all_cons]
    by_cases hc : (rd_T86 l row[j]).f5 = true
    · obtain ⟨K, hK⟩ := over_drop l row hr hlen d (j + 1) (by omega)
      dsimp only at hK
      refine ⟨K + 1, fun k hk => ?_⟩
      obtain ⟨k, rfl⟩ : ∃ m, k = m + 1 := ⟨k - 1, by omega⟩
      dsimp only
      rw [config_Over.l0, hrd, if_pos (by omega), if_pos (by omega), if_pos (by omega), if_pos h0, if_pos h1, if_pos hc, wsucc (by omega), hK k (by omega), hc, Bool.true_and]
    · refine ⟨1, fun k hk => ?_⟩
      obtain ⟨k, rfl⟩ : ∃ m, k = m + 1 := ⟨k - 1, by omega⟩
      dsimp only
      rw [config_Over.l0, hrd, if_pos (by omega), if_pos (by omega), if_pos (by omega), if_pos h0, if_pos h1, if_neg hc, Bool.eq_false_iff.mpr hc, Bool.false_and]
theorem rover_drop (l : List S140) (row : List Int) (hr : ∀ x ∈ row, 0 ≤ x ∧ x < (l.length : Int)) (hlen : row.length ≤ 1000) : ∀ d j : Nat, j + d = row.length →
    Ev (fun k => tumbrelref09_Over.l0 k l row (row.length : Int) (j : Int)) (((row.drop j).all fun x => (rd_T140 l x).f5) && decide ((row.length : Int) > 0))
  | 0, j, hd => by
    refine ⟨1, fun k hk => ?_⟩
    obtain ⟨k, rfl⟩ : ∃ m, k = m + 1 := ⟨k - 1, by omega⟩
    dsimp only
    rw [tumbrelref09_Over.l0, if_neg (by omega), List.drop_eq_nil_of_le (by omega)]
    rfl
  | d + 1, j, hd => by
    have hj : j < row.length := by omega
    have hrd : rd row (j : Int) = row[j] := rd_get row j hj
    obtain ⟨h0, h1⟩ := hr row[j] (List.getElem_mem hj)
    rw [List.drop_eq_getElem_cons hj, List.all_cons]
    by_cases hc : (rd_T140 l row[j]).f5 = true
    · obtain ⟨K, hK⟩ := rover_drop l row hr hlen d (j + 1) (by omega)
      dsimp only at hK
      refine ⟨K + 1, fun k hk => ?_⟩
      obtain ⟨k, rfl⟩ : ∃ m, k = m + 1 := ⟨k - 1, by omega⟩
      dsimp only
      rw [tumbrelref09_Over.l0, hrd, if_pos (by omega), if_pos (by omega), if_pos (by omega), if_pos h0, if_pos h1, if_pos hc, wsucc (by omega), hK k (by omega), hc, Bool.true_and]
    · refine ⟨1, fun k hk => ?_⟩
      obtain ⟨k, rfl⟩ : ∃ m, k = m + 1 := ⟨k - 1, by omega⟩
      dsimp only
      rw [tumbrelref09_Over.l0, hrd, if_pos (by omega), if_pos (by omega), if_pos (by omega), if_pos h0, if_pos h1, if_neg hc, Bool.eq_false_iff.mpr hc, Bool.false_and, Bool.false_and]
def ovI (s : Sh) (av : List Int) (e : Int → Bool) : Bool := ((lvI s av).all e) && decide (((lvI s av).length : Int) > 0)
theorem Over_ev (l : List S86) (hl : l.length ≤ 1000) (av : List Int) (has : av.length ≤ 1000) : Ev (fun k => config_Over.f k l av) (ovI (sh l) av fun x => (rd_T86 l x).f5) := by
  obtain ⟨K, hL⟩ := Leaves_ev l hl av has
  have h40 := lvI_len (s := sh l) av
  obtain ⟨K1, h1⟩ := over_drop l (lvI (sh l) av) (lvI_mem av) (by omega) (lvI (sh l) av).length 0 (by omega)
  dsimp only at hL h1
  rw [List.drop_zero] at h1
  unfold ovI
  refine ⟨K + K1, fun k hk => ?_⟩
  dsimp only
  rw [config_Over.f, hL k (by omega), Option.bind_some]
  by_cases hc : ((lvI (sh l) av).length : Int) > 0
  · rw [if_pos hc, decide_eq_true hc, Bool.and_true]
    exact h1 k (by omega)
  · rw [if_neg hc, decide_eq_false hc, Bool.and_false]
theorem rOver_ev (l : List S140) (av : List Int) (has : av.length ≤ 1000) : Ev (fun k => tumbrelref09_Over.f k l av) (ovI (shr l) av fun x => (rd_T140 l x).f5) := by
  obtain ⟨K, hL⟩ := rLeaves_ev l av has
  have h40 := lvI_len (s := shr l) av
  obtain ⟨K1, h1⟩ := rover_drop l (lvI (shr l) av) (lvI_mem av) (by omega) (lvI (shr l) av).length 0 (by omega)
  dsimp only at hL h1
  rw [List.drop_zero] at h1
  unfold ovI
  refine ⟨K + K1, fun k hk => ?_⟩
  dsimp only
  rw [tumbrelref09_Over.f, hL k (by omega), Option.bind_some]
  exact h1 k (by omega)
/-! ### Start -/
def stI (s : Sh) : List Int := if formedB s = true ∧ 0 < s.n then D s 0 else []
theorem Start_ev (l : List S86) : Ev (fun k => config_Start.f k l) (stI (sh l)) := by
  obtain ⟨K, hF⟩ := formed_ev l 0
  dsimp only at hF
  have hn : (sh l).n = l.length := rfl
  unfold stI
  by_cases hc : formedB (sh l) = true ∧ 0 < (sh l).n
  · have h := (formedB_iff _).mp hc.1
    have e1 : sB (sh l) 0 = true := decide_eq_true ⟨Int.le_refl _, by have := hc.2; omega⟩
    rw [hc.1, e1] at hF
    obtain ⟨K1, h1⟩ := enter_ev l h l.length 0 rfl (by have := hc.2; omega)
    dsimp only at h1
    rw [if_pos hc]
    refine ⟨K + K1, fun k hk => ?_⟩
    dsimp only
    have h2 : config_enter.f k l 0 = some (D (sh l) 0) := h1 k (by omega)
    rw [config_Start.f, hF k (by omega), Option.bind_some, show (true && true) = true from rfl, if_pos rfl, h2, Option.bind_some]
  · have hb : (formedB (sh l) && sB (sh l) 0) = false := by
      cases h1 : formedB (sh l) with
      | false => rfl
      | true =>
        rw [Bool.true_and]
        refine decide_eq_false fun e => hc ⟨h1, ?_⟩
        have := e.2
        omega
    rw [hb] at hF
    rw [if_neg hc]
    refine ⟨K, fun k hk => ?_⟩
    dsimp only
    rw [config_Start.f, hF k hk, Option.bind_some, if_neg (by decide)]
theorem rStart_ev (l : List S140) : Ev (fun k => tumbrelref09_Start.f k l) (stI (shr l)) := by
  obtain ⟨K, hF⟩ := rFormed_ev l
  dsimp only at hF
  have hn : (shr l).n = l.length := rfl
  unfold stI
  cases hf : formedB (shr l) with
  | false =>
    rw [hf] at hF
    rw [if_neg (by simp)]
    refine ⟨K, fun k hk => ?_⟩
    dsimp only
    rw [tumbrelref09_Start.f, hF k hk, Option.bind_some, if_neg (by decide)]
  | true =>
    rw [hf] at hF
    have h := (formedB_iff _).mp hf
    by_cases h0 : 0 < (shr l).n
    · rw [if_pos ⟨rfl, h0⟩]
      obtain ⟨K1, h1⟩ := rdef_ev l h l.length 0 rfl (by omega)
      dsimp only at h1
      refine ⟨K + K1, fun k hk => ?_⟩
      dsimp only
      have h2 : tumbrelref09_byDefault.f k l 0 = some (D (shr l) 0) := h1 k (by omega)
      rw [tumbrelref09_Start.f, hF k (by omega), Option.bind_some, if_pos rfl, if_neg (by omega), h2, Option.bind_some]
    · rw [if_neg (fun e => h0 e.2)]
      refine ⟨K, fun k hk => ?_⟩
      dsimp only
      rw [tumbrelref09_Start.f, hF k hk, Option.bind_some, if_pos rfl, if_pos (by omega)]
theorem stI_len : (stI s).length ≤ 40 := by
  unfold stI
  split
  · rename_i h
    exact D_40 ((formedB_iff s).mp h.1) h.2
  · exact Nat.zero_le _
end Go.Proofs.Ytjghlomkimoeoaa.Tr
