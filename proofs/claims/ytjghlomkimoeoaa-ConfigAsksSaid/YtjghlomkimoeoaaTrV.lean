/- The functions of configurations, av they are printed: Leave, Move; and the law's own ones. -/
import Derived.Test.YtjghlomkimoeoaaTrE
namespace Go.Proofs.Ytjghlomkimoeoaa.Tr
open Go.RowKit Go.Proofs.YtjghlomkimoeoaaW.PrintWords Go.Proofs.YtjghlomkimoeoaaW.PrintLast Go.Proofs.YtjghlomkimoeoaaW.PrintMore Go.Proofs.Ytjghlomkimoeoaa.PConfigAsks
set_option linter.unusedVariables false
set_option linter.unusedSimpArgs false
variable {s : Sh}
theorem rd_get (l : List Int) (j : Nat) (hj : j < l.length) : rd l (j : Int) = l[j] := by simp [rd, List.getD_eq_getElem?_getD, hj]
theorem index_from (l : List Int) (a : Int) (hl : l.length ≤ 1000) : ∀ d j : Nat, j + d = l.length → ∃ v, Ev (fun k => slices_Index_int_int.l0 k l a (l.length : Int) (j : Int)) v ∧ (v ≥ 0 ↔ a ∈ l.drop j)
  | 0, j, hd => by
    refine ⟨-1, ⟨1, fun k hk => ?_⟩, ⟨fun h => by omega, fun h => ?_⟩⟩
    · obtain ⟨k, rfl⟩ : ∃ m, k = m + 1 := ⟨k - 1, by omega⟩
      dsimp only
      rw [slices_Index_int_int.l0, if_neg (by omega)]
    · rw [List.drop_eq_nil_of_le (by omega)] at h
      cases h
  | d + 1, j, hd => by
    have hj : j < l.length := by omega
    rw [List.drop_eq_getElem_cons hj]
    by_cases hc : a = l[j]
    · refine ⟨(j : Int), ⟨1, fun k hk => ?_⟩, ⟨fun _ => by rw [hc]; exact List.mem_cons_self .., fun _ => by omega⟩⟩
      obtain ⟨k, rfl⟩ : ∃ m, k = m + 1 := ⟨k - 1, by omega⟩
      dsimp only
      rw [slices_Index_int_int.l0, if_pos (by omega), if_pos (by omega), if_pos (by omega), rd_get l j hj, if_pos hc]
    · obtain ⟨v, ⟨K, hK⟩, hv⟩ := index_from l a hl d (j + 1) (by omega)
      dsimp only at hK
      refine ⟨v, ⟨K + 1, fun k hk => ?_⟩, hv.trans ⟨fun h => List.mem_cons_of_mem _ h, fun h => (List.mem_cons.mp h).resolve_left hc⟩⟩
      obtain ⟨k, rfl⟩ : ∃ m, k = m + 1 := ⟨k - 1, by omega⟩
      dsimp only
      rw [slices_Index_int_int.l0, if_pos (by omega), if_pos (by omega), if_pos (by omega), rd_get l j hj, if_neg hc, wsucc (by omega), hK k (by omega)]
theorem Contains_ev (l : List Int) (a : Int) (hl : l.length ≤ 1000) : Ev (fun k => slices_Contains_int_int.f k l a) (decide (a ∈ l)) := by
  obtain ⟨v, ⟨K, hK⟩, hv⟩ := index_from l a hl l.length 0 (by omega)
  dsimp only at hK
  rw [List.drop_zero] at hv
  refine ⟨K, fun k hk => ?_⟩
  dsimp only
  unfold slices_Contains_int_int.f slices_Index_int_int.f
  rw [show (0 : Int) = ((0 : Nat) : Int) from rfl, hK k hk, Option.bind_some]
  exact congrArg some (decide_congr' hv)
theorem has_from (l : List Int) (a : Int) (hl : l.length ≤ 1000) : ∀ d j : Nat, j + d = l.length → Ev (fun k => tumbrelref09_has.l0 k l a (l.length : Int) (j : Int)) (decide (a ∈ l.drop j))
  | 0, j, hd => by
    refine ⟨1, fun k hk => ?_⟩
    obtain ⟨k, rfl⟩ : ∃ m, k = m + 1 := ⟨k - 1, by omega⟩
    dsimp only
    rw [tumbrelref09_has.l0, if_neg (by omega), List.drop_eq_nil_of_le (by omega)]
    rfl
  | d + 1, j, hd => by
    have hj : j < l.length := by omega
    rw [List.drop_eq_getElem_cons hj]
    by_cases hc : l[j] = a
    · refine ⟨1, fun k hk => ?_⟩
      obtain ⟨k, rfl⟩ : ∃ m, k = m + 1 := ⟨k - 1, by omega⟩
      dsimp only
      rw [tumbrelref09_has.l0, if_pos (by omega), if_pos (by omega), if_pos (by omega), rd_get l j hj, if_pos hc, decide_eq_true (by rw [hc]; exact List.mem_cons_self ..)]
    · obtain ⟨K, hK⟩ := has_from l a hl d (j + 1) (by omega)
      dsimp only at hK
      refine ⟨K + 1, fun k hk => ?_⟩
      obtain ⟨k, rfl⟩ : ∃ m, k = m + 1 := ⟨k - 1, by omega⟩
      dsimp only
      rw [tumbrelref09_has.l0, if_pos (by omega), if_pos (by omega), if_pos (by omega), rd_get l j hj, if_neg hc, wsucc (by omega), hK k (by omega)]
      exact congrArg some (decide_congr' ⟨fun h => List.mem_cons_of_mem _ h, fun h => (List.mem_cons.mp h).resolve_left fun e => hc e.symm⟩)
theorem has_ev (l : List Int) (a : Int) (hl : l.length ≤ 1000) : Ev (fun k => tumbrelref09_has.f k l a) (decide (a ∈ l)) := by
  obtain ⟨K, hK⟩ := has_from l a hl l.length 0 (by omega)
  exact ⟨K, fun k hk => hK k hk⟩
/-! ### Leave -/
def lv (s : Sh) (av : List Int) (sc : Int) : Nat → List Int
  | 0 => []
  | m + 1 => (if (m : Int) ≠ sc ∧ (m : Int) ∈ av ∧ wB s m sc = true then [(m : Int)] else []) ++ lv s av sc m
theorem lv_len (av : List Int) (sc : Int) : ∀ m, (lv s av sc m).length ≤ m
  | 0 => Nat.le_refl _
  | m + 1 => by
    have := lv_len av sc m
    unfold lv
    rw [List.length_append]
    split
    · simp; omega
    · simp; omega
theorem lv_low (av : List Int) (sc : Int) : ∀ m : Nat, (m : Int) ≤ sc + 1 → lv s av sc m = []
  | 0, _ => rfl
  | m + 1, h => by
    unfold lv
    rw [lv_low av sc m (by omega), List.append_nil]
    refine if_neg fun e => ?_
    obtain ⟨e1, _, e3⟩ := e
    unfold wB at e3
    rcases (Bool.or_eq_true _ _).mp ((Bool.and_eq_true _ _).mp e3).2 with e4 | e4
    · have := of_decide_eq_true e4
      omega
    · have := of_decide_eq_true e4
      omega
theorem wpred' {m : Nat} (h : m ≤ 1000000) : wrap64 ((m : Int) - 1) = (m : Int) - 1 := by unfold wrap64; omega
theorem leave_from (l : List S86) (hf : formedB (sh l) = true) (av : List Int) (has : av.length ≤ 1000) (sc : Int) (hsc : -1 ≤ sc) : ∀ (m : Nat) (acc : List Int), m ≤ l.length → acc.length + m ≤ 40 →
    Ev (fun k => config_Leave.l0 k l av sc acc ((m : Int) - 1)) (acc ++ lv (sh l) av sc m)
  | 0, acc, hm, hacc => by
    refine ⟨1, fun k hk => ?_⟩
    obtain ⟨k, rfl⟩ : ∃ m, k = m + 1 := ⟨k - 1, by omega⟩
    dsimp only
    rw [config_Leave.l0, if_neg (by omega)]
    simp [lv]
  | m + 1, acc, hm, hacc => by
    have e : ((m + 1 : Nat) : Int) - 1 = (m : Int) := by omega
    rw [e]
    by_cases hs : (m : Int) > sc
    · obtain ⟨K, hC⟩ := Contains_ev av (m : Int) has
      obtain ⟨K1, hW⟩ := Within_ev l (m : Int) sc
      dsimp only at hC hW
      rw [hf, Bool.true_and] at hW
      by_cases hc : (m : Int) ∈ av ∧ wB (sh l) m sc = true
      · obtain ⟨K2, h2⟩ := leave_from l hf av has sc hsc m (acc ++ [(m : Int)]) (by omega) (by simp; omega)
        dsimp only at h2
        rw [hc.2] at hW
        rw [decide_eq_true hc.1] at hC
        refine ⟨K + K1 + K2 + 1, fun k hk => ?_⟩
        obtain ⟨k, rfl⟩ : ∃ m, k = m + 1 := ⟨k - 1, by omega⟩
        dsimp only
        rw [config_Leave.l0, if_pos hs, hC k (by omega), Option.bind_some, if_pos rfl, hW k (by omega), Option.bind_some, if_pos rfl, if_pos (by omega), wpred' (by omega), h2 k (by omega)]
        rw [lv, if_pos ⟨by omega, hc.1, hc.2⟩, List.append_assoc]
      · obtain ⟨K2, h2⟩ := leave_from l hf av has sc hsc m acc (by omega) (by omega)
        dsimp only at h2
        have hlv : lv (sh l) av sc (m + 1) = lv (sh l) av sc m := by
          rw [lv, if_neg (fun e => hc ⟨e.2.1, e.2.2⟩), List.nil_append]
        rw [hlv]
        refine ⟨K + K1 + K2 + 1, fun k hk => ?_⟩
        obtain ⟨k, rfl⟩ : ∃ m, k = m + 1 := ⟨k - 1, by omega⟩
        dsimp only
        rw [config_Leave.l0, if_pos hs, hC k (by omega), Option.bind_some]
        by_cases h3 : (m : Int) ∈ av
        · have h4 : wB (sh l) m sc = false := by
            cases h5 : wB (sh l) m sc with
            | false => rfl
            | true => exact absurd ⟨h3, h5⟩ hc
          rw [decide_eq_true h3, if_pos rfl, hW k (by omega), h4, Option.bind_some, if_neg (by decide), wpred' (by omega), h2 k (by omega)]
        · rw [decide_eq_false h3, if_neg (by decide), wpred' (by omega), h2 k (by omega)]
    · refine ⟨1, fun k hk => ?_⟩
      obtain ⟨k, rfl⟩ : ∃ m, k = m + 1 := ⟨k - 1, by omega⟩
      dsimp only
      rw [config_Leave.l0, if_neg hs, lv_low av sc (m + 1) (by omega), List.append_nil]
/-- Leave. -/
def lI (s : Sh) (av : List Int) (sc : Int) : List Int := if formedB s = true ∧ stB s sc = true then lv s av sc s.n else []
theorem lI_len (av : List Int) (sc : Int) : (lI s av sc).length ≤ 40 := by
  unfold lI
  split
  · rename_i h
    have h1 := ((formedB_iff s).mp h.1).le
    have := lv_len (s := s) av sc s.n
    omega
  · exact Nat.zero_le _
theorem Leave_ev (l : List S86) (av : List Int) (has : av.length ≤ 1000) (sc : Int) : Ev (fun k => config_Leave.f k l av sc) (lI (sh l) av sc) := by
  obtain ⟨K, hF⟩ := Formed_ev l
  dsimp only at hF
  have hn : (sh l).n = l.length := rfl
  have hj : ∀ k, 1 ≤ k → config_Leave.j0 k l av sc true = some [] := fun k hk => by
    obtain ⟨k, rfl⟩ : ∃ m, k = m + 1 := ⟨k - 1, by omega⟩
    rw [config_Leave.j0, if_pos rfl]
  unfold lI
  cases hf : formedB (sh l) with
  | false =>
    rw [hf] at hF
    rw [if_neg (by simp)]
    refine ⟨K + 1, fun k hk => ?_⟩
    dsimp only
    rw [config_Leave.f, hF k (by omega), Option.bind_some, if_neg (by decide)]
    exact hj k (by omega)
  | true =>
    rw [hf] at hF
    have h := (formedB_iff (sh l)).mp hf
    have h40 : l.length ≤ 40 := h.le
    obtain ⟨K1, hG⟩ := formed_ev l sc
    dsimp only at hG
    rw [hf, Bool.true_and] at hG
    cases hs : stB (sh l) sc with
    | false =>
      have hs' := of_decide_eq_false hs
      have hs2 : sB (sh l) sc = false := decide_eq_false fun e => hs' (.inr e)
      rw [hs2] at hG
      rw [if_neg (by simp)]
      refine ⟨K + K1 + 1, fun k hk => ?_⟩
      dsimp only
      rw [config_Leave.f, hF k (by omega), Option.bind_some, if_pos rfl, if_neg (fun e => hs' (.inl e)), hG k (by omega), Option.bind_some]
      exact hj k (by omega)
    | true =>
      have hs' := of_decide_eq_true hs
      rw [if_pos ⟨rfl, rfl⟩]
      obtain ⟨K2, h2⟩ := leave_from l hf av has sc (by omega) l.length [] (Nat.le_refl _) (by simp; omega)
      dsimp only at h2
      have hj1 : ∀ k, K2 + 1 ≤ k → config_Leave.j0 k l av sc false = some (lv (sh l) av sc (sh l).n) := by
        intro k hk
        obtain ⟨k, rfl⟩ : ∃ m, k = m + 1 := ⟨k - 1, by omega⟩
        rw [config_Leave.j0, if_neg (by decide), wpred' (by omega), h2 k (by omega)]
        rfl
      refine ⟨K + K1 + K2 + 1, fun k hk => ?_⟩
      dsimp only
      rw [config_Leave.f, hF k (by omega), Option.bind_some, if_pos rfl]
      by_cases hm : sc = -1
      · rw [if_pos hm]
        exact hj1 k (by omega)
      · have hs2 : sB (sh l) sc = true := decide_eq_true (hs'.resolve_left hm)
        rw [hs2] at hG
        rw [if_neg hm, hG k (by omega), Option.bind_some]
        exact hj1 k (by omega)
theorem rleave_from (l : List S140) (hf : formedB (shr l) = true) (av : List Int) (has : av.length ≤ 1000) (sc : Int) : ∀ (m : Nat) (acc : List Int), m ≤ l.length → acc.length + m ≤ 40 →
    Ev (fun k => tumbrelref09_Leave.l0 k l av sc acc ((m : Int) - 1)) (acc ++ lv (shr l) av sc m)
  | 0, acc, hm, hacc => by
    refine ⟨1, fun k hk => ?_⟩
    obtain ⟨k, rfl⟩ : ∃ m, k = m + 1 := ⟨k - 1, by omega⟩
    dsimp only
    rw [tumbrelref09_Leave.l0, if_neg (by omega)]
    simp [lv]
  | m + 1, acc, hm, hacc => by
    have e : ((m + 1 : Nat) : Int) - 1 = (m : Int) := by omega
    rw [e]
    obtain ⟨K, hC⟩ := has_ev av (m : Int) has
    obtain ⟨K1, hW⟩ := rWithin_ev l (m : Int) sc
    dsimp only at hC hW
    rw [hf, Bool.true_and] at hW
    by_cases hc : (m : Int) ≠ sc ∧ (m : Int) ∈ av ∧ wB (shr l) m sc = true
    · obtain ⟨K2, h2⟩ := rleave_from l hf av has sc m (acc ++ [(m : Int)]) (by omega) (by simp; omega)
      dsimp only at h2
      rw [hc.2.2] at hW
      rw [decide_eq_true hc.2.1] at hC
      refine ⟨K + K1 + K2 + 1, fun k hk => ?_⟩
      obtain ⟨k, rfl⟩ : ∃ m, k = m + 1 := ⟨k - 1, by omega⟩
      dsimp only
      rw [tumbrelref09_Leave.l0, if_pos (by omega), if_neg hc.1, hC k (by omega), Option.bind_some, if_pos rfl, hW k (by omega), Option.bind_some, if_pos rfl, if_pos (by omega), wpred' (by omega), h2 k (by omega)]
      rw [lv, if_pos hc, List.append_assoc]
    · obtain ⟨K2, h2⟩ := rleave_from l hf av has sc m acc (by omega) (by omega)
      dsimp only at h2
      have hlv : lv (shr l) av sc (m + 1) = lv (shr l) av sc m := by
        rw [lv, if_neg hc, List.nil_append]
      rw [hlv]
      refine ⟨K + K1 + K2 + 1, fun k hk => ?_⟩
      obtain ⟨k, rfl⟩ : ∃ m, k = m + 1 := ⟨k - 1, by omega⟩
      dsimp only
      rw [tumbrelref09_Leave.l0, if_pos (by omega)]
      by_cases h0 : (m : Int) = sc
      · rw [if_pos h0, wpred' (by omega), h2 k (by omega)]
      · rw [if_neg h0, hC k (by omega), Option.bind_some]
        by_cases h3 : (m : Int) ∈ av
        · have h4 : wB (shr l) m sc = false := by
            cases h5 : wB (shr l) m sc with
            | false => rfl
            | true => exact absurd ⟨h0, h3, h5⟩ hc
          rw [decide_eq_true h3, if_pos rfl, hW k (by omega), h4, Option.bind_some, if_neg (by decide), wpred' (by omega), h2 k (by omega)]
        · rw [decide_eq_false h3, if_neg (by decide), wpred' (by omega), h2 k (by omega)]
theorem rLeave_ev (l : List S140) (av : List Int) (has : av.length ≤ 1000) (sc : Int) : Ev (fun k => tumbrelref09_Leave.f k l av sc) (lI (shr l) av sc) := by
  obtain ⟨K, hF⟩ := rFormed_ev l
  dsimp only at hF
  have hn : (shr l).n = l.length := rfl
  have hj : ∀ k, 1 ≤ k → tumbrelref09_Leave.j0 k l av sc true = some [] := fun k hk => by
    obtain ⟨k, rfl⟩ : ∃ m, k = m + 1 := ⟨k - 1, by omega⟩
    rw [tumbrelref09_Leave.j0, if_pos rfl]
  unfold lI
  cases hf : formedB (shr l) with
  | false =>
    rw [hf] at hF
    rw [if_neg (by simp)]
    refine ⟨K + 1, fun k hk => ?_⟩
    dsimp only
    rw [tumbrelref09_Leave.f, hF k (by omega), Option.bind_some, if_neg (by decide)]
    exact hj k (by omega)
  | true =>
    rw [hf] at hF
    have h := (formedB_iff (shr l)).mp hf
    have h40 : l.length ≤ 40 := h.le
    cases hs : stB (shr l) sc with
    | false =>
      have hs' := of_decide_eq_false hs
      rw [if_neg (by simp)]
      refine ⟨K + 1, fun k hk => ?_⟩
      dsimp only
      rw [tumbrelref09_Leave.f, hF k (by omega), Option.bind_some, if_pos rfl, if_neg (fun e => hs' (.inl e)), rstate_f, Option.bind_some, decide_eq_false (show ¬ (0 ≤ sc ∧ sc < (l.length : Int)) from fun e => hs' (.inr e))]
      exact hj k (by omega)
    | true =>
      have hs' := of_decide_eq_true hs
      rw [if_pos ⟨rfl, rfl⟩]
      obtain ⟨K2, h2⟩ := rleave_from l hf av has sc l.length [] (Nat.le_refl _) (by simp; omega)
      dsimp only at h2
      have hj1 : ∀ k, K2 + 1 ≤ k → tumbrelref09_Leave.j0 k l av sc false = some (lv (shr l) av sc (shr l).n) := by
        intro k hk
        obtain ⟨k, rfl⟩ : ∃ m, k = m + 1 := ⟨k - 1, by omega⟩
        rw [tumbrelref09_Leave.j0, if_neg (by decide), wpred' (by omega), h2 k (by omega)]
        rfl
      refine ⟨K + K2 + 1, fun k hk => ?_⟩
      dsimp only
      rw [tumbrelref09_Leave.f, hF k (by omega), Option.bind_some, if_pos rfl]
      by_cases hm : sc = -1
      · rw [if_pos hm]
        exact hj1 k (by omega)
      · rw [if_neg hm, rstate_f, Option.bind_some, decide_eq_true (show 0 ≤ sc ∧ sc < (l.length : Int) from hs'.resolve_left hm)]
        exact hj1 k (by omega)
end Go.Proofs.Ytjghlomkimoeoaa.Tr
