/- What the laws' own functions answer. -/
import Derived.Test.YtjghlomkimoeoaaTrV
namespace Go.Proofs.Ytjghlomkimoeoaa.Tr
open Go.RowKit Go.Proofs.YtjghlomkimoeoaaW.PrintWords Go.Proofs.YtjghlomkimoeoaaW.PrintLast Go.Proofs.YtjghlomkimoeoaaW.PrintMore Go.Proofs.Ytjghlomkimoeoaa.PConfigAsks
set_option linter.unusedVariables false
set_option linter.unusedSimpArgs false
variable {s : Sh}
theorem eI_len (sc i : Int) : (eI s sc i).length ≤ 40 := by
  unfold eI
  split
  · rename_i h
    have h1 := (formedB_iff s).mp h.1
    split
    · rename_i k hk
      exact W_40 h1 (mem_inn.mp (List.mem_of_find?_eq_some hk)).2.1
    · exact Nat.zero_le _
  · exact Nat.zero_le _
/-! ### the law's own functions -/
theorem ints_from (x : List Int) (hx : x.length ≤ 1000) : ∀ d j : Nat, j + d = x.length → Ev (fun k => tumbrelref09_Ints.l0 k x x (x.length : Int) (j : Int)) true
  | 0, j, hd => by
    refine ⟨1, fun k hk => ?_⟩
    obtain ⟨k, rfl⟩ : ∃ m, k = m + 1 := ⟨k - 1, by omega⟩
    dsimp only
    rw [tumbrelref09_Ints.l0, if_neg (by omega)]
  | d + 1, j, hd => by
    obtain ⟨K, hK⟩ := ints_from x hx d (j + 1) (by omega)
    dsimp only at hK
    refine ⟨K + 1, fun k hk => ?_⟩
    obtain ⟨k, rfl⟩ : ∃ m, k = m + 1 := ⟨k - 1, by omega⟩
    dsimp only
    rw [tumbrelref09_Ints.l0, if_pos (by omega), if_pos (by omega), if_pos (by omega), if_pos (by omega), if_pos rfl, wsucc (by omega), hK k (by omega)]
theorem Ints_ev (x : List Int) (hx : x.length ≤ 1000) : Ev (fun k => tumbrelref09_Ints.f k x x) true := by
  obtain ⟨K, hK⟩ := ints_from x hx x.length 0 (by omega)
  refine ⟨K, fun k hk => ?_⟩
  dsimp only
  unfold tumbrelref09_Ints.f
  rw [if_pos rfl]
  exact hK k hk
theorem few_from (l : List S140) : ∀ d j : Nat, j + d = l.length → j ≤ 1000 → ∃ b, Ev (fun k => tumbrellaw09_Few.l0 k l (l.length : Int) (j : Int)) b ∧ (b = true → l.length ≤ 1000)
  | 0, j, hd, hj => by
    refine ⟨true, ⟨1, fun k hk => ?_⟩, fun _ => by omega⟩
    obtain ⟨k, rfl⟩ : ∃ m, k = m + 1 := ⟨k - 1, by omega⟩
    dsimp only
    rw [tumbrellaw09_Few.l0, if_neg (by omega)]
  | d + 1, j, hd, hj => by
    by_cases h60 : (j : Int) ≥ 60
    · refine ⟨false, ⟨1, fun k hk => ?_⟩, fun h => by cases h⟩
      obtain ⟨k, rfl⟩ : ∃ m, k = m + 1 := ⟨k - 1, by omega⟩
      dsimp only
      rw [tumbrellaw09_Few.l0, if_pos (by omega), if_pos h60]
    · by_cases hs : ((rd_T140 l (j : Int)).f0.size : Int) > 1000
      · refine ⟨false, ⟨1, fun k hk => ?_⟩, fun h => by cases h⟩
        obtain ⟨k, rfl⟩ : ∃ m, k = m + 1 := ⟨k - 1, by omega⟩
        dsimp only
        rw [tumbrellaw09_Few.l0, if_pos (by omega), if_neg h60, if_pos (by omega), if_pos (by omega), if_pos hs]
      · obtain ⟨b, ⟨K, hK⟩, hb⟩ := few_from l d (j + 1) (by omega) (by omega)
        dsimp only at hK
        refine ⟨b, ⟨K + 1, fun k hk => ?_⟩, hb⟩
        obtain ⟨k, rfl⟩ : ∃ m, k = m + 1 := ⟨k - 1, by omega⟩
        dsimp only
        rw [tumbrellaw09_Few.l0, if_pos (by omega), if_neg h60, if_pos (by omega), if_pos (by omega), if_neg hs, wsucc (by omega), hK k (by omega)]
theorem few_ev (l : List S140) (av : List Int) : ∃ b, Ev (fun k => tumbrellaw10_few.f k l av) b ∧ (b = true → l.length ≤ 1000 ∧ av.length ≤ 1000) := by
  obtain ⟨b, ⟨K, hK⟩, hb⟩ := few_from l l.length 0 (by omega) (by omega)
  dsimp only at hK
  have hF : ∀ k, K ≤ k → tumbrellaw09_Few.f k l = some b := fun k hk => hK k hk
  cases b with
  | false =>
    refine ⟨false, ⟨K, fun k hk => ?_⟩, fun h => by cases h⟩
    dsimp only
    rw [tumbrellaw10_few.f, hF k hk, Option.bind_some, if_neg (by decide)]
  | true =>
    refine ⟨decide ((av.length : Int) ≤ 100), ⟨K, fun k hk => ?_⟩, fun h => ⟨hb rfl, ?_⟩⟩
    · dsimp only
      rw [tumbrellaw10_few.f, hF k hk, Option.bind_some, if_pos rfl]
    · have := of_decide_eq_true h
      omega
def cv (x : S140) : S86 := ⟨x.f0, x.f1, x.f2, x.f3, x.f4, x.f5, x.f6⟩
theorem theirs_from (l : List S140) (hl : l.length ≤ 1000) : ∀ (d j : Nat) (acc : List S86), j + d = l.length → acc.length ≤ j → Ev (fun k => tumbrellaw09_Theirs.l0 k l acc (l.length : Int) (j : Int)) (acc ++ (l.drop j).map cv)
  | 0, j, acc, hd, hacc => by
    refine ⟨1, fun k hk => ?_⟩
    obtain ⟨k, rfl⟩ : ∃ m, k = m + 1 := ⟨k - 1, by omega⟩
    dsimp only
    rw [tumbrellaw09_Theirs.l0, if_neg (by omega), List.drop_eq_nil_of_le (by omega)]
    simp
  | d + 1, j, acc, hd, hacc => by
    have hj : j < l.length := by omega
    have hr : rd_T140 l (j : Int) = l[j] := by simp [rd_T140, List.getD_eq_getElem?_getD, hj]
    obtain ⟨K, hK⟩ := theirs_from l hl d (j + 1) (acc ++ [cv l[j]]) (by omega) (by simp; omega)
    dsimp only at hK
    refine ⟨K + 1, fun k hk => ?_⟩
    obtain ⟨k, rfl⟩ : ∃ m, k = m + 1 := ⟨k - 1, by omega⟩
    dsimp only
    rw [tumbrellaw09_Theirs.l0, if_pos (by omega), if_pos (by omega), if_pos (by omega), if_pos (by omega), hr, wsucc (by omega)]
    refine (hK k (by omega)).trans ?_
    rw [List.drop_eq_getElem_cons hj, List.map_cons, List.append_assoc]
    rfl
theorem Theirs_ev (l : List S140) (hl : l.length ≤ 1000) : Ev (fun k => tumbrellaw09_Theirs.f k l) (l.map cv) := by
  obtain ⟨K, hK⟩ := theirs_from l hl l.length 0 [] (by omega) (Nat.le_refl _)
  exact ⟨K, fun k hk => hK k hk⟩
theorem sh_cv (l : List S140) : sh (l.map cv) = shr l := by
  have e : ∀ i : Int, rd_T86 (l.map cv) i = cv (rd_T140 l i) := fun i => by
    unfold rd_T86 rd_T140
    rw [List.getD_eq_getElem?_getD, List.getD_eq_getElem?_getD, List.getElem?_map]
    cases l[i.toNat]? <;> rfl
  unfold sh shr
  rw [List.length_map]
  simp only [e]
  rfl
theorem awake_ev : Ev (fun k => tumbrellaw10_awake.f k) true := Ev.of (k := 30) (fun k => tumbrellaw10_awake.mono k) (by decide +kernel)
end Go.Proofs.Ytjghlomkimoeoaa.Tr
