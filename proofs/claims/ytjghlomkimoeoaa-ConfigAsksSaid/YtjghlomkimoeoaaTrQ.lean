/- The functions of trees, as they are printed, of formed states: Inner, Within, Meet. -/
import Derived.Test.YtjghlomkimoeoaaTrR
namespace Go.Proofs.Ytjghlomkimoeoaa.Tr
open Go.RowKit Go.Proofs.YtjghlomkimoeoaaW.PrintWords Go.Proofs.YtjghlomkimoeoaaW.PrintLast Go.Proofs.YtjghlomkimoeoaaW.PrintMore Go.Proofs.Ytjghlomkimoeoaa.PConfigAsks
set_option linter.unusedVariables false
set_option linter.unusedSimpArgs false
def up (L : List Nat) : List Int := L.map (fun (x : Nat) => (x : Int))
variable {s : Sh}
theorem beh_le (h : WF s) {b p : Nat} (hb : b < s.n) (hp : p < s.n) (hpar : s.par b = p) : s.beh b ≤ s.beh p := by
  refine Int.not_lt.mp fun hlt => ?_
  obtain ⟨e, he, h1, h2, h3, h4⟩ := h.beh p hp
  have hbl := beh_lt h hb
  have hpb : p ∈ anc s b := by
    rcases ok_cases s (h.ok b hb) with h5 | ⟨q, hq, hqb, h5⟩
    · omega
    · rw [h5, show q = p by omega]
      exact List.mem_cons_self ..
  have hbp := (in_iff h hb hp).mp hpb
  have hen : e < s.n := by omega
  have hbe : b ∈ anc s e := (in_iff h hen hb).mpr ⟨by omega, by omega⟩
  exact (h4.resolve_left (by omega)) (anc_trans s hbe hpb)
theorem zero_par (h : WF s) (hn : 0 < s.n) : s.par 0 = -1 := by
  rcases h.ok 0 hn with h1 | ⟨p, hp, _⟩
  · exact h1
  · cases hp
/-- i's end. -/
def endOf (s : Sh) (i : Int) (e : Nat) : Prop := (i = -1 ∧ e = s.n) ∨ ∃ p : Nat, i = p ∧ p < s.n ∧ s.beh p = e
theorem end_le (h : WF s) {i : Int} {e : Nat} (he : endOf s i e) : e ≤ s.n := by
  rcases he with ⟨_, rfl⟩ | ⟨p, _, hp, h2⟩
  · exact Nat.le_refl _
  · have := beh_lt h hp
    omega
theorem inn_at_end (h : WF s) {i : Int} {e : Nat} (he : endOf s i e) : inn s i e = [] := by
  rcases he with ⟨rfl, rfl⟩ | ⟨p, rfl, hp, h2⟩
  · exact inn_end (Nat.le_refl _)
  · exact inn_stop h hp h2
theorem step_in (h : WF s) {i : Int} {e b : Nat} (he : endOf s i e) (hbe : b < e) (hp : s.par b = i) : ∃ c : Nat, s.beh b = c ∧ b < c ∧ c ≤ e ∧ (c = e ∨ s.par c = i) := by
  have hen := end_le h he
  have hb : b < s.n := by omega
  have hbl := beh_lt h hb
  obtain ⟨c, hc⟩ : ∃ c : Nat, s.beh b = c := ⟨(s.beh b).toNat, by omega⟩
  have hce : c ≤ e := by
    rcases he with ⟨_, rfl⟩ | ⟨p, rfl, hpn, h2⟩
    · omega
    · have := beh_le h hb hpn hp
      omega
  refine ⟨c, hc, by omega, hce, ?_⟩
  by_cases h1 : c = e
  · exact .inl h1
  · refine .inr (next_in h hb hp hc (by omega) ?_)
    rcases he with ⟨rfl, rfl⟩ | ⟨p, rfl, hpn, h2⟩
    · exact .inl rfl
    · exact .inr ⟨p, rfl, hpn, by omega⟩
/-- Where those right in i begin. -/
def firstOf (i : Int) : Nat := (i + 1).toNat
theorem first_ok (h : WF s) {i : Int} {e : Nat} (he : endOf s i e) : firstOf i ≤ e ∧ (firstOf i = e ∨ s.par (firstOf i) = i) ∧ inn s i (firstOf i) = inn s i 0 := by
  rcases he with ⟨rfl, rfl⟩ | ⟨p, rfl, hpn, h2⟩
  · refine ⟨Nat.zero_le _, ?_, rfl⟩
    by_cases hn : 0 = s.n
    · exact .inl hn
    · exact .inr (zero_par h (by omega))
  · have hl := beh_lt h hpn
    have hf : firstOf (p : Int) = p + 1 := by unfold firstOf; omega
    rw [hf]
    refine ⟨by omega, ?_, (inn_zero h hpn).symm⟩
    by_cases h3 : p + 1 = e
    · exact .inl h3
    · exact .inr (first_in h hpn (by omega) (by omega))
/-- A fact of all those right in i, from b on. -/
theorem inn_len (h : WF s) {i : Int} {e : Nat} (he : endOf s i e) (g : Nat → Nat) (hg : ∀ x, x < s.n → (g x : Int) ≤ s.beh x - x) : ∀ (d b : Nat), e - b = d → b ≤ e → (b = e ∨ s.par b = i) → ((inn s i b).map g).sum ≤ e - b := by
  intro d
  induction d using Nat.strongRecOn with
  | _ d ih =>
    intro b hd hb hor
    rcases hor with rfl | hp
    · rw [inn_at_end h he]
      exact Nat.zero_le _
    · by_cases hbe : b = e
      · subst hbe
        rw [inn_at_end h he]
        exact Nat.zero_le _
      · obtain ⟨c, hc, h1, h2, h3⟩ := step_in h he (by omega) hp
        have hen := end_le h he
        have := ih (e - c) (by omega) c rfl h2 h3
        have h4 := hg b (by omega)
        rw [inn_next h (by omega) hp hc, List.map_cons, List.sum_cons]
        omega
theorem inner_loop (l : List S86) (h : WF (sh l)) {i : Int} {e : Nat} (he : endOf (sh l) i e) : ∀ (d b : Nat) (acc : List Int), e - b = d → b ≤ e → (b = e ∨ (sh l).par b = i) → acc.length ≤ b →
    Ev (fun k => tree_Inner.l0 k l (e : Int) acc (b : Int)) (acc ++ up (inn (sh l) i b)) := by
  have hn : (sh l).n = l.length := rfl
  have h40 := h.le
  have hen := end_le h he
  intro d
  induction d using Nat.strongRecOn with
  | _ d ih =>
    intro b acc hd hb hor hacc
    by_cases hbe : b = e
    · subst hbe
      refine ⟨1, fun k hk => ?_⟩
      obtain ⟨k, rfl⟩ : ∃ m, k = m + 1 := ⟨k - 1, by omega⟩
      dsimp only
      rw [tree_Inner.l0, if_neg (by omega), inn_at_end h he]
      simp [up]
    · have hp := hor.resolve_left hbe
      obtain ⟨c, hc, h1, h2, h3⟩ := step_in h he (by omega) hp
      obtain ⟨K, hK⟩ := ih (e - c) (by omega) c (acc ++ [(b : Int)]) rfl h2 h3 (by simp; omega)
      dsimp only at hK
      have hc' : (rd_T86 l (b : Int)).f3 = (c : Int) := hc
      refine ⟨K + 1, fun k hk => ?_⟩
      obtain ⟨k, rfl⟩ : ∃ m, k = m + 1 := ⟨k - 1, by omega⟩
      dsimp only
      rw [tree_Inner.l0, if_pos (by omega), if_pos (by omega), if_pos (by omega), if_pos (by omega), hc', hK k (by omega), inn_next h (by omega) hp hc]
      simp [up]
theorem state_f (l : List S86) (i : Int) : tree_state.f l i = some (decide (0 ≤ i ∧ i < (l.length : Int))) := by
  unfold tree_state.f
  by_cases h0 : 0 ≤ i
  · rw [if_pos h0]
    by_cases h1 : i < (l.length : Int) <;> simp [h0, h1]
  · rw [if_neg h0]
    simp [h0]
theorem rstate_f (l : List S140) (i : Int) : tumbrelref09_state.f l i = some (decide (0 ≤ i ∧ i < (l.length : Int))) := by
  unfold tumbrelref09_state.f
  by_cases h0 : 0 ≤ i
  · rw [if_pos h0]
    by_cases h1 : i < (l.length : Int) <;> simp [h0, h1]
  · rw [if_neg h0]
    simp [h0]
def stB (s : Sh) (i : Int) : Bool := decide (i = -1 ∨ (0 ≤ i ∧ i < (s.n : Int)))
theorem endOf_some {s : Sh} (h : WF s) {i : Int} (hi : stB s i = true) : ∃ e, endOf s i e := by
  rcases of_decide_eq_true hi with rfl | ⟨h0, h1⟩
  · exact ⟨_, .inl ⟨rfl, rfl⟩⟩
  · have := beh_lt h (i := i.toNat) (by omega)
    exact ⟨(s.beh i.toNat).toNat, .inr ⟨i.toNat, by omega, by omega, by omega⟩⟩
/-- Inner: the program's. -/
theorem Inner_ev (l : List S86) (i : Int) : Ev (fun k => tree_Inner.f k l i) (if formedB (sh l) = true ∧ stB (sh l) i = true then up (inn (sh l) i 0) else []) := by
  obtain ⟨K, hF⟩ := Formed_ev l
  dsimp only at hF
  have hj : Ev (fun k => tree_Inner.j0 k l i true) [] := ⟨1, fun k hk => by
    obtain ⟨k, rfl⟩ : ∃ m, k = m + 1 := ⟨k - 1, by omega⟩
    dsimp only
    rw [tree_Inner.j0, if_pos rfl]⟩
  obtain ⟨K0, hj⟩ := hj
  dsimp only at hj
  cases hf : formedB (sh l) with
  | false =>
    rw [hf] at hF
    rw [if_neg (by simp)]
    refine ⟨K + K0, fun k hk => ?_⟩
    dsimp only
    rw [tree_Inner.f, hF k (by omega), Option.bind_some, if_neg (by decide)]
    exact hj k (by omega)
  | true =>
    rw [hf] at hF
    have h := (formedB_iff (sh l)).mp hf
    have h40 := h.le
    have hn : (sh l).n = l.length := rfl
    cases hs : stB (sh l) i with
    | false =>
      have hs' := of_decide_eq_false hs
      rw [if_neg (by simp)]
      refine ⟨K + K0, fun k hk => ?_⟩
      dsimp only
      rw [tree_Inner.f, hF k (by omega), Option.bind_some, if_pos rfl, if_neg (fun e => hs' (.inl e)), state_f, Option.bind_some, decide_eq_false (show ¬ (0 ≤ i ∧ i < (l.length : Int)) from fun e => hs' (.inr e))]
      exact hj k (by omega)
    | true =>
      rw [if_pos ⟨rfl, rfl⟩]
      obtain ⟨e, he⟩ := endOf_some h hs
      obtain ⟨f1, f2, f3⟩ := first_ok h he
      obtain ⟨K1, h1⟩ := inner_loop l h he (e - firstOf i) (firstOf i) [] rfl f1 f2 (Nat.zero_le _)
      dsimp only at h1
      rw [f3, List.nil_append] at h1
      have hj1 : ∀ k, K1 + 2 ≤ k → tree_Inner.j0 k l i false = some (up (inn (sh l) i 0)) := by
        intro k hk
        obtain ⟨k, rfl⟩ : ∃ m, k = m + 2 := ⟨k - 2, by omega⟩
        rw [tree_Inner.j0, if_neg (by decide)]
        rcases he with ⟨rfl, rfl⟩ | ⟨p, rfl, hp, hb⟩
        · rw [if_neg (by decide), tree_Inner.j1]
          exact h1 k (by omega)
        · have hb' : (rd_T86 l (p : Int)).f3 = (e : Int) := hb
          have hfp : firstOf (p : Int) = p + 1 := by unfold firstOf; omega
          rw [if_pos (by omega), if_pos (by omega), if_pos (by omega), hb', tree_Inner.j1, wsucc (by omega), ← hfp]
          exact h1 k (by omega)
      refine ⟨K + K1 + 2, fun k hk => ?_⟩
      dsimp only
      rw [tree_Inner.f, hF k (by omega), Option.bind_some, if_pos rfl]
      rcases of_decide_eq_true hs with hi | hi
      · rw [if_pos hi]
        exact hj1 k (by omega)
      · rw [if_neg (by omega), state_f, Option.bind_some, decide_eq_true (by rw [hn] at hi; exact hi)]
        exact hj1 k (by omega)
theorem rinner_loop (l : List S140) (hl : l.length ≤ 40) (i : Int) : ∀ (d b : Nat) (acc : List Int), b + d = l.length → acc.length ≤ b →
    Ev (fun k => tumbrelref09_Inner.l0 k l i acc (l.length : Int) (b : Int)) (acc ++ up (inn (shr l) i b))
  | 0, b, acc, hd, hacc => by
    refine ⟨1, fun k hk => ?_⟩
    obtain ⟨k, rfl⟩ : ∃ m, k = m + 1 := ⟨k - 1, by omega⟩
    dsimp only
    rw [tumbrelref09_Inner.l0, if_neg (by omega), inn_end (show (shr l).n ≤ b by show l.length ≤ b; omega)]
    simp [up]
  | d + 1, b, acc, hd, hacc => by
    have hb : b < (shr l).n := by show b < l.length; omega
    by_cases hp : (rd_T140 l (b : Int)).f1 = i
    · obtain ⟨K, hK⟩ := rinner_loop l hl i d (b + 1) (acc ++ [(b : Int)]) (by omega) (by simp; omega)
      dsimp only at hK
      refine ⟨K + 1, fun k hk => ?_⟩
      obtain ⟨k, rfl⟩ : ∃ m, k = m + 1 := ⟨k - 1, by omega⟩
      dsimp only
      rw [tumbrelref09_Inner.l0, if_pos (by omega), if_pos (by omega), if_pos (by omega), if_pos hp, if_pos (by omega), wsucc (by omega), hK k (by omega), inn_cons hb, if_pos (show (shr l).par b = i from hp)]
      simp [up]
    · obtain ⟨K, hK⟩ := rinner_loop l hl i d (b + 1) acc (by omega) (by omega)
      dsimp only at hK
      refine ⟨K + 1, fun k hk => ?_⟩
      obtain ⟨k, rfl⟩ : ∃ m, k = m + 1 := ⟨k - 1, by omega⟩
      dsimp only
      rw [tumbrelref09_Inner.l0, if_pos (by omega), if_pos (by omega), if_pos (by omega), if_neg hp, wsucc (by omega), hK k (by omega), inn_cons hb, if_neg (show ¬ (shr l).par b = i from hp)]
/-- Inner: the document's. -/
theorem rInner_ev (l : List S140) (i : Int) : Ev (fun k => tumbrelref09_Inner.f k l i) (if formedB (shr l) = true ∧ stB (shr l) i = true then up (inn (shr l) i 0) else []) := by
  obtain ⟨K, hF⟩ := rFormed_ev l
  dsimp only at hF
  have hj : Ev (fun k => tumbrelref09_Inner.j0 k l i true) [] := ⟨1, fun k hk => by
    obtain ⟨k, rfl⟩ : ∃ m, k = m + 1 := ⟨k - 1, by omega⟩
    dsimp only
    rw [tumbrelref09_Inner.j0, if_pos rfl]⟩
  obtain ⟨K0, hj⟩ := hj
  dsimp only at hj
  cases hf : formedB (shr l) with
  | false =>
    rw [hf] at hF
    rw [if_neg (by simp)]
    refine ⟨K + K0, fun k hk => ?_⟩
    dsimp only
    rw [tumbrelref09_Inner.f, hF k (by omega), Option.bind_some, if_neg (by decide)]
    exact hj k (by omega)
  | true =>
    rw [hf] at hF
    have h := (formedB_iff (shr l)).mp hf
    have h40 : l.length ≤ 40 := h.le
    have hn : (shr l).n = l.length := rfl
    cases hs : stB (shr l) i with
    | false =>
      have hs' := of_decide_eq_false hs
      rw [if_neg (by simp)]
      refine ⟨K + K0, fun k hk => ?_⟩
      dsimp only
      rw [tumbrelref09_Inner.f, hF k (by omega), Option.bind_some, if_pos rfl, if_neg (fun e => hs' (.inl e)), rstate_f, Option.bind_some, decide_eq_false (show ¬ (0 ≤ i ∧ i < (l.length : Int)) from fun e => hs' (.inr e))]
      exact hj k (by omega)
    | true =>
      rw [if_pos ⟨rfl, rfl⟩]
      obtain ⟨K1, h1⟩ := rinner_loop l h40 i l.length 0 [] (by omega) (Nat.zero_le _)
      dsimp only at h1
      rw [List.nil_append] at h1
      have hj1 : ∀ k, K1 + 1 ≤ k → tumbrelref09_Inner.j0 k l i false = some (up (inn (shr l) i 0)) := by
        intro k hk
        obtain ⟨k, rfl⟩ : ∃ m, k = m + 1 := ⟨k - 1, by omega⟩
        rw [tumbrelref09_Inner.j0, if_neg (by decide)]
        exact h1 k (by omega)
      refine ⟨K + K1 + 2, fun k hk => ?_⟩
      dsimp only
      rw [tumbrelref09_Inner.f, hF k (by omega), Option.bind_some, if_pos rfl]
      rcases of_decide_eq_true hs with hi | hi
      · rw [if_pos hi]
        exact hj1 k (by omega)
      · rw [if_neg (by omega), rstate_f, Option.bind_some, decide_eq_true (by rw [hn] at hi; exact hi)]
        exact hj1 k (by omega)
/-- Within. -/
def wB (s : Sh) (i j : Int) : Bool := stB s i && (decide (j = -1) || decide (0 ≤ j ∧ j ≤ i ∧ i < s.beh j.toNat ∧ j < (s.n : Int)))
theorem Within_ev (l : List S86) (i j : Int) : Ev (fun k => tree_Within.f k l i j) (formedB (sh l) && wB (sh l) i j) := by
  obtain ⟨K, hF⟩ := Formed_ev l
  dsimp only at hF
  have hj : ∀ k, 1 ≤ k → tree_Within.j0 k l i j true = some false := fun k hk => by
    obtain ⟨k, rfl⟩ : ∃ m, k = m + 1 := ⟨k - 1, by omega⟩
    rw [tree_Within.j0, if_pos rfl]
  cases hf : formedB (sh l) with
  | false =>
    rw [hf] at hF
    refine ⟨K + 1, fun k hk => ?_⟩
    dsimp only
    rw [tree_Within.f, hF k (by omega), Option.bind_some, if_neg (by decide), hj k (by omega)]
    rfl
  | true =>
    rw [hf] at hF
    have h := (formedB_iff (sh l)).mp hf
    have hn : (sh l).n = l.length := rfl
    rw [Bool.true_and]
    unfold wB
    cases hs : stB (sh l) i with
    | false =>
      have hs' := of_decide_eq_false hs
      refine ⟨K + 1, fun k hk => ?_⟩
      dsimp only
      rw [tree_Within.f, hF k (by omega), Option.bind_some, if_pos rfl, if_neg (fun e => hs' (.inl e)), state_f, Option.bind_some, decide_eq_false (show ¬ (0 ≤ i ∧ i < (l.length : Int)) from fun e => hs' (.inr e))]
      exact hj k (by omega)
    | true =>
      have hj1 : ∀ k, 1 ≤ k → tree_Within.j0 k l i j false = some (decide (j = -1) || decide (0 ≤ j ∧ j ≤ i ∧ i < (sh l).beh j.toNat ∧ j < ((sh l).n : Int))) := by
        intro k hk
        obtain ⟨k, rfl⟩ : ∃ m, k = m + 1 := ⟨k - 1, by omega⟩
        rw [tree_Within.j0, if_neg (by decide)]
        by_cases hm : j = -1
        · rw [if_pos hm, decide_eq_true hm]
          rfl
        · rw [if_neg hm, decide_eq_false hm, state_f, Option.bind_some, Bool.false_or]
          by_cases h0 : 0 ≤ j ∧ j < (l.length : Int)
          · rw [decide_eq_true h0, if_pos rfl]
            by_cases h1 : j ≤ i
            · rw [if_pos h1, if_pos h0.1, if_pos h0.2]
              refine congrArg some (decide_congr' ?_)
              have e : (rd_T86 l j).f3 = (sh l).beh j.toNat := by
                show _ = (rd_T86 l ((j.toNat : Nat) : Int)).f3
                rw [Int.toNat_of_nonneg h0.1]
              rw [e]
              exact ⟨fun h2 => ⟨h0.1, h1, h2, h0.2⟩, fun h2 => h2.2.2.1⟩
            · rw [if_neg h1]
              exact congrArg some (decide_eq_false fun h2 => h1 h2.2.1).symm
          · rw [decide_eq_false h0, if_neg (by decide)]
            exact congrArg some (decide_eq_false fun h2 => h0 ⟨h2.1, h2.2.2.2⟩).symm
      refine ⟨K + 1, fun k hk => ?_⟩
      dsimp only
      rw [tree_Within.f, hF k (by omega), Option.bind_some, if_pos rfl, Bool.true_and]
      rcases of_decide_eq_true hs with hi | hi
      · rw [if_pos hi]
        exact hj1 k (by omega)
      · rw [if_neg (by omega), state_f, Option.bind_some, decide_eq_true (by rw [hn] at hi; exact hi)]
        exact hj1 k (by omega)
theorem rWithin_ev (l : List S140) (i j : Int) : Ev (fun k => tumbrelref09_Within.f k l i j) (formedB (shr l) && wB (shr l) i j) := by
  obtain ⟨K, hF⟩ := rFormed_ev l
  dsimp only at hF
  cases hf : formedB (shr l) with
  | false =>
    rw [hf] at hF
    refine ⟨K, fun k hk => ?_⟩
    dsimp only
    rw [tumbrelref09_Within.f, hF k (by omega), Option.bind_some, if_neg (by decide)]
    rfl
  | true =>
    rw [hf] at hF
    have h := (formedB_iff (shr l)).mp hf
    have hn : (shr l).n = l.length := rfl
    rw [Bool.true_and]
    unfold wB stB
    by_cases hi : i = -1
    · subst hi
      rw [decide_eq_true (Or.inl rfl), Bool.true_and]
      refine ⟨K, fun k hk => ?_⟩
      dsimp only
      rw [tumbrelref09_Within.f, hF k (by omega), Option.bind_some, if_pos rfl, if_pos rfl]
      by_cases hm : j = -1
      · rw [if_pos hm, decide_eq_true hm]
        rfl
      · rw [if_neg hm, rstate_f, Option.bind_some, decide_eq_false hm, Bool.false_or]
        by_cases h0 : 0 ≤ j ∧ j < (l.length : Int)
        · rw [decide_eq_true h0, if_pos rfl, if_neg (by omega), if_neg (by decide)]
          exact congrArg some (decide_eq_false fun h2 => by omega).symm
        · rw [decide_eq_false h0, if_neg (by decide)]
          exact congrArg some (decide_eq_false fun h2 => by omega).symm
    · by_cases hs : 0 ≤ i ∧ i < (l.length : Int)
      · rw [decide_eq_true (Or.inr (by rw [hn]; exact hs)), Bool.true_and]
        obtain ⟨a, rfl⟩ : ∃ a : Nat, i = a := ⟨i.toNat, by omega⟩
        obtain ⟨v, ⟨K1, hv⟩, hv2⟩ := lies_ev l a (by omega) j
        dsimp only at hv
        have hv3 := hv2 fun m hm => h.ok m (by rw [hn]; omega)
        refine ⟨K + K1, fun k hk => ?_⟩
        dsimp only
        rw [tumbrelref09_Within.f, hF k (by omega), Option.bind_some, if_pos rfl, if_neg hi, rstate_f, Option.bind_some, decide_eq_true hs, if_pos rfl]
        by_cases hm : j = -1
        · rw [if_pos hm, decide_eq_true hm]
          rfl
        · rw [if_neg hm, rstate_f, Option.bind_some, decide_eq_false hm, Bool.false_or]
          by_cases h0 : 0 ≤ j ∧ j < (l.length : Int)
          · obtain ⟨b, rfl⟩ : ∃ b : Nat, j = b := ⟨j.toNat, by omega⟩
            have hw := within_iff h (i := a) (j := b) (by rw [hn]; omega) (by rw [hn]; omega)
            rw [decide_eq_true h0, if_pos rfl, Int.toNat_natCast]
            by_cases hab : (a : Int) = (b : Int)
            · rw [if_pos hab]
              have := hw.mpr (.inl (by omega))
              exact congrArg some (decide_eq_true ⟨h0.1, by omega, this.2, by rw [hn]; omega⟩).symm
            · rw [if_neg hab, if_pos (by omega), hv k (by omega), Option.bind_some, hv3]
              refine congrArg some ?_
              have h5 : memI (anc (shr l) a) (b : Int) = decide (b ∈ anc (shr l) a) := by
                have h6 : memI (anc (shr l) a) (b : Int) = true ↔ b ∈ anc (shr l) a := by
                  rw [memI_iff]
                  exact ⟨fun ⟨p, hp, e⟩ => by rw [show b = p by omega]; exact hp, fun hb => ⟨b, hb, rfl⟩⟩
                by_cases hb : b ∈ anc (shr l) a
                · rw [decide_eq_true hb, h6.mpr hb]
                · rw [decide_eq_false hb]
                  exact Bool.eq_false_iff.mpr fun e => hb (h6.mp e)
              rw [h5]
              refine decide_congr' ⟨fun hb => ?_, fun hb => ?_⟩
              · have := hw.mpr (.inr hb)
                exact ⟨h0.1, by omega, this.2, by rw [hn]; omega⟩
              · rcases hw.mp ⟨by omega, hb.2.2.1⟩ with e | e
                · exact absurd (by omega) hab
                · exact e
          · rw [decide_eq_false h0, if_neg (by decide)]
            exact congrArg some (decide_eq_false fun h2 => h0 ⟨h2.1, by rw [hn] at h2; exact h2.2.2.2⟩).symm
      · rw [decide_eq_false (fun e => by rcases e with e | e; exact hi e; exact hs (by rw [hn] at e; exact e)), Bool.false_and]
        refine ⟨K, fun k hk => ?_⟩
        dsimp only
        rw [tumbrelref09_Within.f, hF k (by omega), Option.bind_some, if_pos rfl, if_neg hi, rstate_f, Option.bind_some, decide_eq_false hs, if_neg (by decide)]
end Go.Proofs.Ytjghlomkimoeoaa.Tr
