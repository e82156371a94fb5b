/- ConfigMoves: what its function answers. -/
import Derived.Test.YtjghlomkimoeoaaTrV
namespace Go.Proofs.Ytjghlomkimoeoaa.Tr
open Go.RowKit Go.Proofs.YtjghlomkimoeoaaW.PrintWords Go.Proofs.YtjghlomkimoeoaaW.PrintLast Go.Proofs.YtjghlomkimoeoaaW.PrintMore Go.Proofs.Ytjghlomkimoeoaa.PConfigMoves
set_option linter.unusedVariables false
set_option linter.unusedSimpArgs false
variable {s : Sh}
/-- What is active then. -/
def nx (av left ent : List Int) : Nat → Nat → List Int
  | 0, _ => []
  | d + 1, i => (if (i : Int) ∈ ent ∨ ((i : Int) ∈ av ∧ (i : Int) ∉ left) then [(i : Int)] else []) ++ nx av left ent d (i + 1)
theorem nx_len (av left ent : List Int) : ∀ d i, (nx av left ent d i).length ≤ d
  | 0, _ => Nat.le_refl _
  | d + 1, i => by
    have := nx_len av left ent d (i + 1)
    rw [nx, List.length_append]
    split
    · simp; omega
    · simp; omega
theorem move_from (av left ent : List Int) (h1 : av.length ≤ 1000) (h2 : left.length ≤ 1000) (h3 : ent.length ≤ 1000) (n : Nat) (hn : n ≤ 1000) : ∀ (d i : Nat) (acc : List Int), i + d = n → acc.length ≤ i →
    Ev (fun k => config_Move.l0 k av left ent acc (n : Int) (i : Int)) (left, ent, acc ++ nx av left ent d i)
  | 0, i, acc, hd, hacc => by
    refine ⟨1, fun k hk => ?_⟩
    obtain ⟨k, rfl⟩ : ∃ m, k = m + 1 := ⟨k - 1, by omega⟩
    dsimp only
    rw [config_Move.l0, if_neg (by omega)]
    simp [nx]
  | d + 1, i, acc, hd, hacc => by
    obtain ⟨K1, c1⟩ := Contains_ev ent (i : Int) h3
    obtain ⟨K2, c2⟩ := Contains_ev av (i : Int) h1
    obtain ⟨K3, c3⟩ := Contains_ev left (i : Int) h2
    dsimp only at c1 c2 c3
    obtain ⟨K, hK⟩ := move_from av left ent h1 h2 h3 n hn d (i + 1) (acc ++ [(i : Int)]) (by omega) (by simp; omega)
    obtain ⟨K', hK'⟩ := move_from av left ent h1 h2 h3 n hn d (i + 1) acc (by omega) (by omega)
    dsimp only at hK hK'
    refine ⟨K + K' + K1 + K2 + K3 + 1, fun k hk => ?_⟩
    obtain ⟨k, rfl⟩ : ∃ m, k = m + 1 := ⟨k - 1, by omega⟩
    dsimp only
    rw [config_Move.l0, if_pos (by omega), c1 k (by omega), Option.bind_some, wsucc (by omega), nx]
    by_cases e1 : (i : Int) ∈ ent
    · rw [decide_eq_true e1, if_pos rfl, if_pos (by omega), hK k (by omega), if_pos (.inl e1), List.append_assoc]
    · rw [decide_eq_false e1, if_neg (by decide), c2 k (by omega), Option.bind_some]
      by_cases e2 : (i : Int) ∈ av
      · rw [decide_eq_true e2, if_pos rfl, c3 k (by omega), Option.bind_some]
        by_cases e3 : (i : Int) ∈ left
        · rw [decide_eq_true e3, if_pos rfl, hK' k (by omega), if_neg (fun e => e.elim e1 fun e => e.2 e3), List.nil_append]
        · rw [decide_eq_false e3, if_neg (by decide), if_pos (by omega), hK k (by omega), if_pos (.inr ⟨e2, e3⟩), List.append_assoc]
      · rw [decide_eq_false e2, if_neg (by decide), hK' k (by omega), if_neg (fun e => e.elim e1 fun e => e2 e.1), List.nil_append]
theorem rmove_from (av left ent : List Int) (h1 : av.length ≤ 1000) (h2 : left.length ≤ 1000) (h3 : ent.length ≤ 1000) (n : Nat) (hn : n ≤ 1000) : ∀ (d i : Nat) (acc : List Int), i + d = n → acc.length ≤ i →
    Ev (fun k => tumbrelref09_Move.l0 k av left ent acc (n : Int) (i : Int)) (left, ent, acc ++ nx av left ent d i)
  | 0, i, acc, hd, hacc => by
    refine ⟨1, fun k hk => ?_⟩
    obtain ⟨k, rfl⟩ : ∃ m, k = m + 1 := ⟨k - 1, by omega⟩
    dsimp only
    rw [tumbrelref09_Move.l0, if_neg (by omega)]
    simp [nx]
  | d + 1, i, acc, hd, hacc => by
    obtain ⟨K1, c1⟩ := has_ev ent (i : Int) h3
    obtain ⟨K2, c2⟩ := has_ev av (i : Int) h1
    obtain ⟨K3, c3⟩ := has_ev left (i : Int) h2
    dsimp only at c1 c2 c3
    obtain ⟨K, hK⟩ := rmove_from av left ent h1 h2 h3 n hn d (i + 1) (acc ++ [(i : Int)]) (by omega) (by simp; omega)
    obtain ⟨K', hK'⟩ := rmove_from av left ent h1 h2 h3 n hn d (i + 1) acc (by omega) (by omega)
    dsimp only at hK hK'
    refine ⟨K + K' + K1 + K2 + K3 + 1, fun k hk => ?_⟩
    obtain ⟨k, rfl⟩ : ∃ m, k = m + 1 := ⟨k - 1, by omega⟩
    dsimp only
    rw [tumbrelref09_Move.l0, if_pos (by omega), c1 k (by omega), Option.bind_some, wsucc (by omega), nx]
    by_cases e1 : (i : Int) ∈ ent
    · rw [decide_eq_true e1, if_pos rfl, if_pos (by omega), hK k (by omega), if_pos (.inl e1), List.append_assoc]
    · rw [decide_eq_false e1, if_neg (by decide), c2 k (by omega), Option.bind_some]
      by_cases e2 : (i : Int) ∈ av
      · rw [decide_eq_true e2, if_pos rfl, c3 k (by omega), Option.bind_some]
        by_cases e3 : (i : Int) ∈ left
        · rw [decide_eq_true e3, if_pos rfl, hK' k (by omega), if_neg (fun e => e.elim e1 fun e => e.2 e3), List.nil_append]
        · rw [decide_eq_false e3, if_neg (by decide), if_pos (by omega), hK k (by omega), if_pos (.inr ⟨e2, e3⟩), List.append_assoc]
      · rw [decide_eq_false e2, if_neg (by decide), hK' k (by omega), if_neg (fun e => e.elim e1 fun e => e2 e.1), List.nil_append]
def mv (s : Sh) (av : List Int) (i j : Int) : List Int × List Int × List Int :=
  if formedB s = true ∧ sB s i = true ∧ sB s j = true then
    (lI s av (mB s i j), eI s (mB s i j) j, nx av (lI s av (mB s i j)) (eI s (mB s i j) j) s.n 0)
  else ([], [], [])
theorem eI_len (sc i : Int) : (eI s sc i).length ≤ 40 := by
  unfold eI
  split
  · rename_i h
    have h1 := (formedB_iff s).mp h.1
    split
    · rename_i k hk
      exact W_40 h1 (mem_inn.mp (List.mem_of_find?_eq_some hk)).2.1
    · exact Nat.zero_le _
  · exact Nat.zero_le _
theorem Move_ev (l : List S86) (av : List Int) (has : av.length ≤ 1000) (i j : Int) : Ev (fun k => config_Move.f k l av i j) (mv (sh l) av i j) := by
  obtain ⟨K, hF⟩ := formed_ev l i
  obtain ⟨K1, hG⟩ := formed_ev l j
  dsimp only at hF hG
  have hn : (sh l).n = l.length := rfl
  have hj : ∀ k, 1 ≤ k → config_Move.j0 k l av i j [] true = some ([], [], []) := fun k hk => by
    obtain ⟨k, rfl⟩ : ∃ m, k = m + 1 := ⟨k - 1, by omega⟩
    rw [config_Move.j0, if_pos rfl]
  unfold mv
  by_cases h1 : formedB (sh l) = true ∧ sB (sh l) i = true
  · rw [h1.1, h1.2] at hF
    rw [h1.1] at hG
    cases h2 : sB (sh l) j with
    | false =>
      rw [h2] at hG
      rw [if_neg (by simp)]
      refine ⟨K + K1 + 1, fun k hk => ?_⟩
      dsimp only
      rw [config_Move.f, hF k (by omega), Option.bind_some, show (true && true) = true from rfl, if_pos rfl, hG k (by omega), Option.bind_some]
      exact hj k (by omega)
    | true =>
      rw [h2] at hG
      rw [if_pos ⟨h1.1, h1.2, rfl⟩]
      have h40 : l.length ≤ 40 := ((formedB_iff (sh l)).mp h1.1).le
      obtain ⟨K2, hM⟩ := Meet_ev l i j
      obtain ⟨K3, hL⟩ := Leave_ev l av has (mB (sh l) i j)
      obtain ⟨K4, hE⟩ := Enter_ev l (mB (sh l) i j) j
      have l1 := lI_len (s := sh l) av (mB (sh l) i j)
      have l2 := eI_len (s := sh l) (mB (sh l) i j) j
      obtain ⟨K5, hV⟩ := move_from av (lI (sh l) av (mB (sh l) i j)) (eI (sh l) (mB (sh l) i j) j) has (by omega) (by omega) l.length (by omega) l.length 0 [] (by omega) (Nat.le_refl _)
      dsimp only at hM hL hE hV
      refine ⟨K + K1 + K2 + K3 + K4 + K5 + 1, fun k hk => ?_⟩
      obtain ⟨k, rfl⟩ : ∃ m, k = m + 1 := ⟨k - 1, by omega⟩
      dsimp only
      rw [config_Move.f, hF (k + 1) (by omega), Option.bind_some, show (true && true) = true from rfl, if_pos rfl, hG (k + 1) (by omega), Option.bind_some, show (!(true && true)) = false from rfl, config_Move.j0, if_neg (by decide), hM k (by omega), Option.bind_some, hL k (by omega), Option.bind_some, hE k (by omega), Option.bind_some]
      exact hV k (by omega)
  · have hb : (formedB (sh l) && sB (sh l) i) = false := by
      cases h3 : formedB (sh l) <;> cases h2 : sB (sh l) i <;> simp_all
    rw [hb] at hF
    rw [if_neg (fun e => h1 ⟨e.1, e.2.1⟩)]
    refine ⟨K + 1, fun k hk => ?_⟩
    dsimp only
    rw [config_Move.f, hF k (by omega), Option.bind_some, if_neg (by decide)]
    exact hj k (by omega)
theorem rMove_ev (l : List S140) (av : List Int) (has : av.length ≤ 1000) (i j : Int) : Ev (fun k => tumbrelref09_Move.f k l av i j) (mv (shr l) av i j) := by
  obtain ⟨K, hF⟩ := rFormed_ev l
  dsimp only at hF
  have hn : (shr l).n = l.length := rfl
  have hj : ∀ k, 1 ≤ k → tumbrelref09_Move.j0 k l av i j true = some ([], [], []) := fun k hk => by
    obtain ⟨k, rfl⟩ : ∃ m, k = m + 1 := ⟨k - 1, by omega⟩
    rw [tumbrelref09_Move.j0, if_pos rfl]
  unfold mv
  cases hf : formedB (shr l) with
  | false =>
    rw [hf] at hF
    rw [if_neg (by simp)]
    refine ⟨K + 1, fun k hk => ?_⟩
    dsimp only
    rw [tumbrelref09_Move.f, hF k (by omega), Option.bind_some, if_neg (by decide)]
    exact hj k (by omega)
  | true =>
    rw [hf] at hF
    have h40 : l.length ≤ 40 := ((formedB_iff (shr l)).mp hf).le
    by_cases h1 : 0 ≤ i ∧ i < (l.length : Int)
    · have e1 : sB (shr l) i = true := decide_eq_true h1
      by_cases h2 : 0 ≤ j ∧ j < (l.length : Int)
      · have e2 : sB (shr l) j = true := decide_eq_true h2
        rw [if_pos ⟨rfl, e1, e2⟩]
        obtain ⟨K2, hM⟩ := rMeet_ev l i j
        obtain ⟨K3, hL⟩ := rLeave_ev l av has (mB (shr l) i j)
        obtain ⟨K4, hE⟩ := rEnter_ev l (mB (shr l) i j) j
        have l1 := lI_len (s := shr l) av (mB (shr l) i j)
        have l2 := eI_len (s := shr l) (mB (shr l) i j) j
        obtain ⟨K5, hV⟩ := rmove_from av (lI (shr l) av (mB (shr l) i j)) (eI (shr l) (mB (shr l) i j) j) has (by omega) (by omega) l.length (by omega) l.length 0 [] (by omega) (Nat.le_refl _)
        dsimp only at hM hL hE hV
        refine ⟨K + K2 + K3 + K4 + K5 + 1, fun k hk => ?_⟩
        obtain ⟨k, rfl⟩ : ∃ m, k = m + 1 := ⟨k - 1, by omega⟩
        dsimp only
        rw [tumbrelref09_Move.f, hF (k + 1) (by omega), Option.bind_some, if_pos rfl, rstate_f, Option.bind_some, decide_eq_true h1, if_pos rfl, rstate_f, Option.bind_some, decide_eq_true h2, show (!true) = false from rfl, tumbrelref09_Move.j0, if_neg (by decide), hM k (by omega), Option.bind_some, hL k (by omega), Option.bind_some, hE k (by omega), Option.bind_some]
        exact hV k (by omega)
      · rw [if_neg (fun e => h2 (of_decide_eq_true e.2.2))]
        refine ⟨K + 1, fun k hk => ?_⟩
        dsimp only
        rw [tumbrelref09_Move.f, hF k (by omega), Option.bind_some, if_pos rfl, rstate_f, Option.bind_some, decide_eq_true h1, if_pos rfl, rstate_f, Option.bind_some, decide_eq_false h2]
        exact hj k (by omega)
    · rw [if_neg (fun e => h1 (of_decide_eq_true e.2.1))]
      refine ⟨K + 1, fun k hk => ?_⟩
      dsimp only
      rw [tumbrelref09_Move.f, hF k (by omega), Option.bind_some, if_pos rfl, rstate_f, Option.bind_some, decide_eq_false h1, if_neg (by decide)]
      exact hj k (by omega)
/-! ### the law's own functions -/
theorem ints_from (x : List Int) (hx : x.length ≤ 1000) : ∀ d j : Nat, j + d = x.length → Ev (fun k => tumbrelref09_Ints.l0 k x x (x.length : Int) (j : Int)) true
  | 0, j, hd => by
    refine ⟨1, fun k hk => ?_⟩
    obtain ⟨k, rfl⟩ : ∃ m, k = m + 1 := ⟨k - 1, by omega⟩
    dsimp only
    rw [tumbrelref09_Ints.l0, if_neg (by omega)]
  | d + 1, j, hd => by
    obtain ⟨K, hK⟩ := ints_from x hx d (j + 1) (by omega)
    dsimp only at hK
    refine ⟨K + 1, fun k hk => ?_⟩
    obtain ⟨k, rfl⟩ : ∃ m, k = m + 1 := ⟨k - 1, by omega⟩
    dsimp only
    rw [tumbrelref09_Ints.l0, if_pos (by omega), if_pos (by omega), if_pos (by omega), if_pos (by omega), if_pos rfl, wsucc (by omega), hK k (by omega)]
theorem Ints_ev (x : List Int) (hx : x.length ≤ 1000) : Ev (fun k => tumbrelref09_Ints.f k x x) true := by
  obtain ⟨K, hK⟩ := ints_from x hx x.length 0 (by omega)
  refine ⟨K, fun k hk => ?_⟩
  dsimp only
  unfold tumbrelref09_Ints.f
  rw [if_pos rfl]
  exact hK k hk
theorem few_from (l : List S140) : ∀ d j : Nat, j + d = l.length → j ≤ 1000 → ∃ b, Ev (fun k => tumbrellaw09_Few.l0 k l (l.length : Int) (j : Int)) b ∧ (b = true → l.length ≤ 1000)
  | 0, j, hd, hj => by
    refine ⟨true, ⟨1, fun k hk => ?_⟩, fun _ => by omega⟩
    obtain ⟨k, rfl⟩ : ∃ m, k = m + 1 := ⟨k - 1, by omega⟩
    dsimp only
    rw [tumbrellaw09_Few.l0, if_neg (by omega)]
  | d + 1, j, hd, hj => by
    by_cases h60 : (j : Int) ≥ 60
    · refine ⟨false, ⟨1, fun k hk => ?_⟩, fun h => by cases h⟩
      obtain ⟨k, rfl⟩ : ∃ m, k = m + 1 := ⟨k - 1, by omega⟩
      dsimp only
      rw [tumbrellaw09_Few.l0, if_pos (by omega), if_pos h60]
    · by_cases hs : ((rd_T140 l (j : Int)).f0.size : Int) > 1000
      · refine ⟨false, ⟨1, fun k hk => ?_⟩, fun h => by cases h⟩
        obtain ⟨k, rfl⟩ : ∃ m, k = m + 1 := ⟨k - 1, by omega⟩
        dsimp only
        rw [tumbrellaw09_Few.l0, if_pos (by omega), if_neg h60, if_pos (by omega), if_pos (by omega), if_pos hs]
      · obtain ⟨b, ⟨K, hK⟩, hb⟩ := few_from l d (j + 1) (by omega) (by omega)
        dsimp only at hK
        refine ⟨b, ⟨K + 1, fun k hk => ?_⟩, hb⟩
        obtain ⟨k, rfl⟩ : ∃ m, k = m + 1 := ⟨k - 1, by omega⟩
        dsimp only
        rw [tumbrellaw09_Few.l0, if_pos (by omega), if_neg h60, if_pos (by omega), if_pos (by omega), if_neg hs, wsucc (by omega), hK k (by omega)]
theorem few_ev (l : List S140) (av : List Int) : ∃ b, Ev (fun k => tumbrellaw10_few.f k l av) b ∧ (b = true → l.length ≤ 1000 ∧ av.length ≤ 1000) := by
  obtain ⟨b, ⟨K, hK⟩, hb⟩ := few_from l l.length 0 (by omega) (by omega)
  dsimp only at hK
  have hF : ∀ k, K ≤ k → tumbrellaw09_Few.f k l = some b := fun k hk => hK k hk
  cases b with
  | false =>
    refine ⟨false, ⟨K, fun k hk => ?_⟩, fun h => by cases h⟩
    dsimp only
    rw [tumbrellaw10_few.f, hF k hk, Option.bind_some, if_neg (by decide)]
  | true =>
    refine ⟨decide ((av.length : Int) ≤ 100), ⟨K, fun k hk => ?_⟩, fun h => ⟨hb rfl, ?_⟩⟩
    · dsimp only
      rw [tumbrellaw10_few.f, hF k hk, Option.bind_some, if_pos rfl]
    · have := of_decide_eq_true h
      omega
def cv (x : S140) : S86 := ⟨x.f0, x.f1, x.f2, x.f3, x.f4, x.f5, x.f6⟩
theorem theirs_from (l : List S140) (hl : l.length ≤ 1000) : ∀ (d j : Nat) (acc : List S86), j + d = l.length → acc.length ≤ j → Ev (fun k => tumbrellaw09_Theirs.l0 k l acc (l.length : Int) (j : Int)) (acc ++ (l.drop j).map cv)
  | 0, j, acc, hd, hacc => by
    refine ⟨1, fun k hk => ?_⟩
    obtain ⟨k, rfl⟩ : ∃ m, k = m + 1 := ⟨k - 1, by omega⟩
    dsimp only
    rw [tumbrellaw09_Theirs.l0, if_neg (by omega), List.drop_eq_nil_of_le (by omega)]
    simp
  | d + 1, j, acc, hd, hacc => by
    have hj : j < l.length := by omega
    have hr : rd_T140 l (j : Int) = l[j] := by simp [rd_T140, List.getD_eq_getElem?_getD, hj]
    obtain ⟨K, hK⟩ := theirs_from l hl d (j + 1) (acc ++ [cv l[j]]) (by omega) (by simp; omega)
    dsimp only at hK
    refine ⟨K + 1, fun k hk => ?_⟩
    obtain ⟨k, rfl⟩ : ∃ m, k = m + 1 := ⟨k - 1, by omega⟩
    dsimp only
    rw [tumbrellaw09_Theirs.l0, if_pos (by omega), if_pos (by omega), if_pos (by omega), if_pos (by omega), hr, wsucc (by omega)]
    refine (hK k (by omega)).trans ?_
    rw [List.drop_eq_getElem_cons hj, List.map_cons, List.append_assoc]
    rfl
theorem Theirs_ev (l : List S140) (hl : l.length ≤ 1000) : Ev (fun k => tumbrellaw09_Theirs.f k l) (l.map cv) := by
  obtain ⟨K, hK⟩ := theirs_from l hl l.length 0 [] (by omega) (Nat.le_refl _)
  exact ⟨K, fun k hk => hK k hk⟩
theorem sh_cv (l : List S140) : sh (l.map cv) = shr l := by
  have e : ∀ i : Int, rd_T86 (l.map cv) i = cv (rd_T140 l i) := fun i => by
    unfold rd_T86 rd_T140
    rw [List.getD_eq_getElem?_getD, List.getD_eq_getElem?_getD, List.getElem?_map]
    cases l[i.toNat]? <;> rfl
  unfold sh shr
  rw [List.length_map]
  simp only [e]
  rfl
theorem awake_ev : Ev (fun k => tumbrellaw10_awake.f k) true := Ev.of (k := 30) (fun k => tumbrellaw10_awake.mono k) (by decide +kernel)
theorem moves (l : List S140) (av : List Int) (i j : Int) : Ev (fun k => tumbrellaw10_ConfigMoves.f k l av i j) true := by
  obtain ⟨K, hA⟩ := awake_ev
  dsimp only at hA
  obtain ⟨b, ⟨K1, hF⟩, hb⟩ := few_ev l av
  dsimp only at hF
  cases b with
  | false =>
    refine ⟨K + K1 + 1, fun k hk => ?_⟩
    obtain ⟨k, rfl⟩ : ∃ m, k = m + 1 := ⟨k - 1, by omega⟩
    dsimp only
    rw [tumbrellaw10_ConfigMoves.f, hA (k + 1) (by omega), Option.bind_some, if_pos rfl, hF (k + 1) (by omega), Option.bind_some, show (!false) = true from rfl, tumbrellaw10_ConfigMoves.j0, if_pos rfl, hA k (by omega), Option.bind_some]
  | true =>
    obtain ⟨hl, hav⟩ := hb rfl
    obtain ⟨K2, hT⟩ := Theirs_ev l hl
    obtain ⟨K3, hM⟩ := Move_ev (l.map cv) av hav i j
    obtain ⟨K4, hR⟩ := rMove_ev l av hav i j
    rw [sh_cv] at hM
    dsimp only at hT hM hR
    have h40 : (mv (shr l) av i j).1.length ≤ 1000 ∧ (mv (shr l) av i j).2.1.length ≤ 1000 ∧ (mv (shr l) av i j).2.2.length ≤ 1000 := by
      unfold mv
      split
      · rename_i h
        have h1 := ((formedB_iff _).mp h.1).le
        have l1 := lI_len (s := shr l) av (mB (shr l) i j)
        have l2 := eI_len (s := shr l) (mB (shr l) i j) j
        have l3 := nx_len av (lI (shr l) av (mB (shr l) i j)) (eI (shr l) (mB (shr l) i j) j) (shr l).n 0
        dsimp only
        omega
      · simp
    generalize mv (shr l) av i j = r at hM hR h40
    obtain ⟨K5, h5⟩ := Ints_ev r.1 h40.1
    obtain ⟨K6, h6⟩ := Ints_ev r.2.1 h40.2.1
    obtain ⟨K7, h7⟩ := Ints_ev r.2.2 h40.2.2
    dsimp only at h5 h6 h7
    refine ⟨K + K1 + K2 + K3 + K4 + K5 + K6 + K7 + 1, fun k hk => ?_⟩
    obtain ⟨k, rfl⟩ : ∃ m, k = m + 1 := ⟨k - 1, by omega⟩
    dsimp only
    rw [tumbrellaw10_ConfigMoves.f, hA (k + 1) (by omega), Option.bind_some, if_pos rfl, hF (k + 1) (by omega), Option.bind_some, show (!true) = false from rfl, tumbrellaw10_ConfigMoves.j0, if_neg (by decide), hT k (by omega), Option.bind_some, hM k (by omega), Option.bind_some, hR k (by omega), Option.bind_some, h5 k (by omega), Option.bind_some, if_pos rfl, h6 k (by omega), Option.bind_some, if_pos rfl, h7 k (by omega), Option.bind_some]
end Go.Proofs.Ytjghlomkimoeoaa.Tr
