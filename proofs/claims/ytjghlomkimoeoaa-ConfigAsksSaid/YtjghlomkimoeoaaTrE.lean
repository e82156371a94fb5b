/- The functions of configurations, as they are printed: toward, Enter, Leave. -/
import Derived.Test.YtjghlomkimoeoaaTrM
namespace Go.Proofs.Ytjghlomkimoeoaa.Tr
open Go.RowKit Go.Proofs.YtjghlomkimoeoaaW.PrintWords Go.Proofs.YtjghlomkimoeoaaW.PrintLast Go.Proofs.YtjghlomkimoeoaaW.PrintMore Go.Proofs.Ytjghlomkimoeoaa.PConfigAsks
set_option linter.unusedVariables false
set_option linter.unusedSimpArgs false
variable {s : Sh}
def part (s : Sh) (t a k : Nat) : List Int := if k ≤ t ∧ (t : Int) < s.beh k then W s t k else if s.all a then D s k else []
theorem part_40 (h : WF s) {t a k : Nat} (hk : k < s.n) : (part s t a k).length ≤ 40 := by
  unfold part
  split
  · exact W_40 h hk
  · split
    · exact D_40 h hk
    · exact Nat.zero_le _
theorem toward_all (l : List S86) (h : WF (sh l)) {t a : Nat} (ht : t < l.length) (ha : a < l.length) (L : List Nat) (hL : ∀ x ∈ L, x < l.length ∧ Ev (fun k => config_toward.f k l (x : Int) (t : Int)) (W (sh l) t x)) (hLl : L.length ≤ 40) :
    ∀ (d j : Nat) (acc : List Int), j + d = L.length → acc.length ≤ 1 + 40 * j → Ev (fun k => config_toward.l0 k l (a : Int) (t : Int) acc (up L) (L.length : Int) (j : Int)) (acc ++ (L.drop j).flatMap (part (sh l) t a))
  | 0, j, acc, hd, hacc => by
    refine ⟨1, fun k hk => ?_⟩
    obtain ⟨k, rfl⟩ : ∃ m, k = m + 1 := ⟨k - 1, by omega⟩
    dsimp only
    rw [config_toward.l0, if_neg (by omega), List.drop_eq_nil_of_le (by omega)]
    simp
  | d + 1, j, acc, hd, hacc => by
    have hj : j < L.length := by omega
    obtain ⟨h1, K1, hK1⟩ := hL L[j] (List.getElem_mem hj)
    dsimp only at hK1
    have h40 := part_40 h (t := t) (a := a) (k := L[j]) h1
    have h41 := W_40 h (t := t) (i := L[j]) h1
    have h42 := D_40 h (i := L[j]) h1
    obtain ⟨K2, hK2⟩ := enter_ev l h _ L[j] rfl h1
    dsimp only at hK2
    obtain ⟨K, hK⟩ := toward_all l h ht ha L hL hLl d (j + 1) (acc ++ part (sh l) t a L[j]) (by omega) (by rw [List.length_append]; omega)
    dsimp only at hK
    have hb : (rd_T86 l (L[j] : Int)).f3 = (sh l).beh L[j] := rfl
    have hj1 : ∀ k, K + K1 + K2 + 1 ≤ k → config_toward.j1 k l (a : Int) (t : Int) acc (L[j] : Int) (up L) (L.length : Int) (j : Int) (decide (L[j] ≤ t ∧ (t : Int) < (sh l).beh L[j])) = some (acc ++ (L.drop j).flatMap (part (sh l) t a)) := by
      intro k hk
      obtain ⟨k, rfl⟩ : ∃ m, k = m + 1 := ⟨k - 1, by omega⟩
      rw [List.drop_eq_getElem_cons hj, List.flatMap_cons, ← List.append_assoc]
      by_cases hc : L[j] ≤ t ∧ (t : Int) < (sh l).beh L[j]
      · have hp : part (sh l) t a L[j] = W (sh l) t L[j] := by unfold part; rw [if_pos hc]
        rw [hp] at hK ⊢
        rw [decide_eq_true hc, config_toward.j1, if_pos rfl, hK1 k (by omega), Option.bind_some, if_pos (by omega), wsucc (by omega), hK k (by omega)]
      · cases hall : (sh l).all a with
        | true =>
          have hp : part (sh l) t a L[j] = D (sh l) L[j] := by unfold part; rw [if_neg hc, if_pos hall]
          have hall' : (rd_T86 l (a : Int)).f4 = true := hall
          rw [hp] at hK ⊢
          rw [decide_eq_false hc, config_toward.j1, if_neg (by decide), if_pos (by omega), if_pos (by omega), if_pos hall', hK2 k (by omega), Option.bind_some, if_pos (by omega), wsucc (by omega), hK k (by omega)]
        | false =>
          have hp : part (sh l) t a L[j] = [] := by unfold part; rw [if_neg hc, if_neg (by rw [hall]; decide)]
          have hall' : (rd_T86 l (a : Int)).f4 = false := hall
          rw [hp] at hK ⊢
          rw [List.append_nil] at hK ⊢
          rw [decide_eq_false hc, config_toward.j1, if_neg (by decide), if_pos (by omega), if_pos (by omega), if_neg (by rw [hall']; decide), wsucc (by omega), hK k (by omega)]
    refine ⟨K + K1 + K2 + 2, fun k hk => ?_⟩
    obtain ⟨k, rfl⟩ : ∃ m, k = m + 1 := ⟨k - 1, by omega⟩
    dsimp only
    rw [config_toward.l0, if_pos (by omega), if_pos (by omega), if_pos (by rw [up_len']; omega), rd_up L j hj]
    by_cases hc : (L[j] : Int) ≤ (t : Int)
    · rw [if_pos hc, if_pos (by omega), if_pos (by omega), hb]
      rw [show decide ((t : Int) < (sh l).beh L[j]) = decide (L[j] ≤ t ∧ (t : Int) < (sh l).beh L[j]) from decide_congr' ⟨fun e => ⟨by omega, e⟩, fun e => e.2⟩]
      exact hj1 k (by omega)
    · rw [if_neg hc]
      rw [show false = decide (L[j] ≤ t ∧ (t : Int) < (sh l).beh L[j]) from (decide_eq_false fun e => hc (by omega)).symm]
      exact hj1 k (by omega)
theorem toward_ev (l : List S86) (h : WF (sh l)) {t : Nat} (ht : t < l.length) : ∀ (d a : Nat), l.length - a = d → a < l.length → Ev (fun k => config_toward.f k l (a : Int) (t : Int)) (W (sh l) t a) := by
  intro d
  induction d using Nat.strongRecOn with
  | _ d ih =>
    intro a hd ha
    have hn : (sh l).n = l.length := rfl
    have hf := (formedB_iff (sh l)).mpr h
    rw [W_eq h ha]
    by_cases hat : a = t
    · subst hat
      rw [if_pos rfl]
      obtain ⟨K, hK⟩ := enter_ev l h _ a rfl ha
      dsimp only at hK
      refine ⟨K + 1, fun k hk => ?_⟩
      obtain ⟨k, rfl⟩ : ∃ m, k = m + 1 := ⟨k - 1, by omega⟩
      dsimp only
      rw [config_toward.f, if_pos rfl, hK k (by omega), Option.bind_some]
    · rw [if_neg hat]
      obtain ⟨K, hI⟩ := Inner_ev l (a : Int)
      dsimp only at hI
      rw [if_pos ⟨hf, decide_eq_true (.inr (by rw [hn]; omega))⟩] at hI
      have h40 := inn_40 h (a : Int) 0
      obtain ⟨K1, h1⟩ := toward_all l h ht ha (inn (sh l) a 0) (fun x hx => by
        have hx2 := inn_gt h ha hx
        exact ⟨hx2.2, ih (l.length - x) (by omega) x rfl hx2.2⟩) h40 (inn (sh l) a 0).length 0 [(a : Int)] (by omega) (by simp)
      dsimp only at h1
      refine ⟨K + K1 + 1, fun k hk => ?_⟩
      obtain ⟨k, rfl⟩ : ∃ m, k = m + 1 := ⟨k - 1, by omega⟩
      dsimp only
      rw [config_toward.f, if_neg (by omega), hI k (by omega), Option.bind_some, up_len']
      exact h1 k (by omega)
theorem wB_nat (h : WF s) {t x : Nat} (ht : t < s.n) (hx : x < s.n) : wB s (t : Int) (x : Int) = decide (x ≤ t ∧ (t : Int) < s.beh x) := by
  unfold wB stB
  rw [decide_eq_true (Or.inr ⟨by omega, by omega⟩), Bool.true_and, decide_eq_false (by omega), Bool.false_or, Int.toNat_natCast]
  exact decide_congr' ⟨fun e => ⟨by omega, e.2.2.1⟩, fun e => ⟨by omega, by omega, e.2, by omega⟩⟩
theorem rtoward_all (l : List S140) (h : WF (shr l)) {t a : Nat} (ht : t < l.length) (ha : a < l.length) (L : List Nat) (hL : ∀ x ∈ L, x < l.length ∧ Ev (fun k => tumbrelref09_toward.f k l (x : Int) (t : Int)) (W (shr l) t x)) (hLl : L.length ≤ 40) :
    ∀ (d j : Nat) (acc : List Int), j + d = L.length → acc.length ≤ 1 + 40 * j → Ev (fun k => tumbrelref09_toward.l0 k l (a : Int) (t : Int) acc (up L) (L.length : Int) (j : Int)) (acc ++ (L.drop j).flatMap (part (shr l) t a))
  | 0, j, acc, hd, hacc => by
    refine ⟨1, fun k hk => ?_⟩
    obtain ⟨k, rfl⟩ : ∃ m, k = m + 1 := ⟨k - 1, by omega⟩
    dsimp only
    rw [tumbrelref09_toward.l0, if_neg (by omega), List.drop_eq_nil_of_le (by omega)]
    simp
  | d + 1, j, acc, hd, hacc => by
    have hj : j < L.length := by omega
    have hf := (formedB_iff (shr l)).mpr h
    obtain ⟨h1, K1, hK1⟩ := hL L[j] (List.getElem_mem hj)
    dsimp only at hK1
    have h40 := part_40 h (t := t) (a := a) (k := L[j]) h1
    have h41 := W_40 h (t := t) (i := L[j]) h1
    have h42 := D_40 h (i := L[j]) h1
    obtain ⟨K2, hK2⟩ := rdef_ev l h _ L[j] rfl h1
    dsimp only at hK2
    obtain ⟨K3, hK3⟩ := rWithin_ev l (t : Int) (L[j] : Int)
    dsimp only at hK3
    rw [hf, Bool.true_and, wB_nat h ht h1] at hK3
    obtain ⟨K, hK⟩ := rtoward_all l h ht ha L hL hLl d (j + 1) (acc ++ part (shr l) t a L[j]) (by omega) (by rw [List.length_append]; omega)
    dsimp only at hK
    refine ⟨K + K1 + K2 + K3 + 2, fun k hk => ?_⟩
    obtain ⟨k, rfl⟩ : ∃ m, k = m + 1 := ⟨k - 1, by omega⟩
    dsimp only
    rw [tumbrelref09_toward.l0, if_pos (by omega), if_pos (by omega), if_pos (by rw [up_len']; omega), rd_up L j hj, hK3 k (by omega), Option.bind_some, List.drop_eq_getElem_cons hj, List.flatMap_cons, ← List.append_assoc]
    by_cases hc : L[j] ≤ t ∧ (t : Int) < (shr l).beh L[j]
    · have hp : part (shr l) t a L[j] = W (shr l) t L[j] := by unfold part; rw [if_pos hc]
      rw [hp] at hK ⊢
      rw [decide_eq_true hc, if_pos rfl, hK1 k (by omega), Option.bind_some, if_pos (by omega), wsucc (by omega), hK k (by omega)]
    · cases hall : (shr l).all a with
      | true =>
        have hp : part (shr l) t a L[j] = D (shr l) L[j] := by unfold part; rw [if_neg hc, if_pos hall]
        have hall' : (rd_T140 l (a : Int)).f4 = true := hall
        rw [hp] at hK ⊢
        rw [decide_eq_false hc, if_neg (by decide), if_pos (by omega), if_pos (by omega), if_pos hall', hK2 k (by omega), Option.bind_some, if_pos (by omega), wsucc (by omega), hK k (by omega)]
      | false =>
        have hp : part (shr l) t a L[j] = [] := by unfold part; rw [if_neg hc, if_neg (by rw [hall]; decide)]
        have hall' : (rd_T140 l (a : Int)).f4 = false := hall
        rw [hp] at hK ⊢
        rw [List.append_nil] at hK ⊢
        rw [decide_eq_false hc, if_neg (by decide), if_pos (by omega), if_pos (by omega), if_neg (by rw [hall']; decide), wsucc (by omega), hK k (by omega)]
theorem rtoward_ev (l : List S140) (h : WF (shr l)) {t : Nat} (ht : t < l.length) : ∀ (d a : Nat), l.length - a = d → a < l.length → Ev (fun k => tumbrelref09_toward.f k l (a : Int) (t : Int)) (W (shr l) t a) := by
  intro d
  induction d using Nat.strongRecOn with
  | _ d ih =>
    intro a hd ha
    have hn : (shr l).n = l.length := rfl
    have hf := (formedB_iff (shr l)).mpr h
    rw [W_eq h ha]
    by_cases hat : a = t
    · subst hat
      rw [if_pos rfl]
      obtain ⟨K, hK⟩ := rdef_ev l h _ a rfl ha
      dsimp only at hK
      refine ⟨K + 1, fun k hk => ?_⟩
      obtain ⟨k, rfl⟩ : ∃ m, k = m + 1 := ⟨k - 1, by omega⟩
      dsimp only
      rw [tumbrelref09_toward.f, if_pos rfl, hK k (by omega), Option.bind_some]
    · rw [if_neg hat]
      obtain ⟨K, hI⟩ := rInner_ev l (a : Int)
      dsimp only at hI
      rw [if_pos ⟨hf, decide_eq_true (.inr (by rw [hn]; omega))⟩] at hI
      have h40 := inn_40 h (a : Int) 0
      obtain ⟨K1, h1⟩ := rtoward_all l h ht ha (inn (shr l) a 0) (fun x hx => by
        have hx2 := inn_gt h ha hx
        exact ⟨hx2.2, ih (l.length - x) (by omega) x rfl hx2.2⟩) h40 (inn (shr l) a 0).length 0 [(a : Int)] (by omega) (by simp)
      dsimp only at h1
      refine ⟨K + K1 + 1, fun k hk => ?_⟩
      obtain ⟨k, rfl⟩ : ∃ m, k = m + 1 := ⟨k - 1, by omega⟩
      dsimp only
      rw [tumbrelref09_toward.f, if_neg (by omega), hI k (by omega), Option.bind_some, up_len']
      exact h1 k (by omega)
/-- Enter. -/
def eI (s : Sh) (sc i : Int) : List Int :=
  if formedB s = true ∧ sB s i = true ∧ sc ≠ i ∧ wB s i sc = true then
    match (inn s sc 0).find? (fun x => decide (x ≤ i.toNat ∧ (i.toNat : Int) < s.beh x)) with
    | some k => W s i.toNat k
    | none => []
  else []
theorem formed_ev (l : List S86) (i : Int) : Ev (fun k => config_formed.f k l i) (formedB (sh l) && sB (sh l) i) := by
  obtain ⟨K, hF⟩ := Formed_ev l
  dsimp only at hF
  have hn : (sh l).n = l.length := rfl
  refine ⟨K, fun k hk => ?_⟩
  dsimp only
  unfold config_formed.f sB
  by_cases h0 : 0 ≤ i
  · by_cases h1 : i < (l.length : Int)
    · rw [if_pos h0, if_pos h1, hF k hk, Option.bind_some, decide_eq_true ⟨h0, by rw [hn]; exact h1⟩, Bool.and_true]
    · rw [if_pos h0, if_neg h1, decide_eq_false (fun e => h1 (by rw [hn] at e; exact e.2)), Bool.and_false]
  · rw [if_neg h0, decide_eq_false (fun e => h0 e.1), Bool.and_false]
theorem enter_find (l : List S86) (h : WF (sh l)) {i : Nat} (hi : i < l.length) (L : List Nat) (hL : ∀ x ∈ L, x < l.length) (hLl : L.length ≤ 40) : ∀ d j : Nat, j + d = L.length →
    Ev (fun k => config_Enter.l0 k l (i : Int) (up L) (L.length : Int) (j : Int)) (match (L.drop j).find? (fun x => decide (x ≤ i ∧ (i : Int) < (sh l).beh x)) with | some k => W (sh l) i k | none => [])
  | 0, j, hd => by
    refine ⟨1, fun k hk => ?_⟩
    obtain ⟨k, rfl⟩ : ∃ m, k = m + 1 := ⟨k - 1, by omega⟩
    dsimp only
    rw [config_Enter.l0, if_neg (by omega), List.drop_eq_nil_of_le (by omega)]
    rfl
  | d + 1, j, hd => by
    have hj : j < L.length := by omega
    have h1 := hL L[j] (List.getElem_mem hj)
    have hb : (rd_T86 l (L[j] : Int)).f3 = (sh l).beh L[j] := rfl
    obtain ⟨K, hK⟩ := enter_find l h hi L hL hLl d (j + 1) (by omega)
    dsimp only at hK
    obtain ⟨K1, hK1⟩ := toward_ev l h hi _ L[j] rfl h1
    dsimp only at hK1
    rw [List.drop_eq_getElem_cons hj]
    refine ⟨K + K1 + 1, fun k hk => ?_⟩
    obtain ⟨k, rfl⟩ : ∃ m, k = m + 1 := ⟨k - 1, by omega⟩
    dsimp only
    rw [config_Enter.l0, if_pos (by omega), if_pos (by omega), if_pos (by rw [up_len']; omega), rd_up L j hj]
    by_cases hc : (L[j] : Int) ≤ (i : Int)
    · rw [if_pos hc, if_pos (by omega), if_pos (by omega), hb]
      by_cases hc2 : (i : Int) < (sh l).beh L[j]
      · rw [if_pos hc2, hK1 k (by omega), Option.bind_some, List.find?_cons_of_pos (h := by simp; omega)]
      · rw [if_neg hc2, wsucc (by omega), hK k (by omega), List.find?_cons_of_neg (h := by simp; omega)]
    · rw [if_neg hc, wsucc (by omega), hK k (by omega), List.find?_cons_of_neg (h := by simp; omega)]
theorem wB_st {i sc : Int} (h : wB s i sc = true) (hi : sB s i = true) : stB s sc = true := by
  unfold wB at h
  have h1 := of_decide_eq_true hi
  rcases (Bool.or_eq_true _ _).mp ((Bool.and_eq_true _ _).mp h).2 with h2 | h2
  · exact decide_eq_true (.inl (of_decide_eq_true h2))
  · have h3 := of_decide_eq_true h2
    exact decide_eq_true (.inr ⟨h3.1, h3.2.2.2⟩)
theorem Enter_ev (l : List S86) (sc i : Int) : Ev (fun k => config_Enter.f k l sc i) (eI (sh l) sc i) := by
  obtain ⟨K, hF⟩ := formed_ev l i
  dsimp only at hF
  have hj : ∀ k, 1 ≤ k → config_Enter.j0 k l sc i true = some [] := fun k hk => by
    obtain ⟨k, rfl⟩ : ∃ m, k = m + 1 := ⟨k - 1, by omega⟩
    rw [config_Enter.j0, if_pos rfl]
  unfold eI
  by_cases hc : formedB (sh l) = true ∧ sB (sh l) i = true
  · rw [hc.1, hc.2, Bool.true_and] at hF
    have h := (formedB_iff (sh l)).mp hc.1
    by_cases hsc : sc = i
    · rw [if_neg (fun e => e.2.2.1 hsc)]
      refine ⟨K + 1, fun k hk => ?_⟩
      dsimp only
      rw [config_Enter.f, hF k (by omega), Option.bind_some, if_pos rfl, if_pos hsc]
      exact hj k (by omega)
    · obtain ⟨K1, hW⟩ := Within_ev l i sc
      dsimp only at hW
      rw [hc.1, Bool.true_and] at hW
      cases hw : wB (sh l) i sc with
      | false =>
        rw [hw] at hW
        rw [if_neg (by simp)]
        refine ⟨K + K1 + 1, fun k hk => ?_⟩
        dsimp only
        rw [config_Enter.f, hF k (by omega), Option.bind_some, if_pos rfl, if_neg hsc, hW k (by omega), Option.bind_some]
        exact hj k (by omega)
      | true =>
        rw [hw] at hW
        rw [if_pos ⟨hc.1, hc.2, hsc, rfl⟩]
        have hi := of_decide_eq_true hc.2
        have hn : (sh l).n = l.length := rfl
        obtain ⟨a, rfl⟩ : ∃ a : Nat, i = a := ⟨i.toNat, by omega⟩
        rw [Int.toNat_natCast]
        obtain ⟨K2, hI⟩ := Inner_ev l sc
        dsimp only at hI
        rw [if_pos ⟨hc.1, wB_st hw hc.2⟩] at hI
        have h40 := inn_40 h sc 0
        obtain ⟨K3, h3⟩ := enter_find l h (i := a) (by omega) (inn (sh l) sc 0) (fun x hx => (mem_inn.mp hx).2.1) h40 (inn (sh l) sc 0).length 0 (by omega)
        dsimp only at h3
        refine ⟨K + K1 + K2 + K3 + 1, fun k hk => ?_⟩
        obtain ⟨k, rfl⟩ : ∃ m, k = m + 1 := ⟨k - 1, by omega⟩
        dsimp only
        rw [config_Enter.f, hF (k + 1) (by omega), Option.bind_some, if_pos rfl, if_neg hsc, hW (k + 1) (by omega), Option.bind_some, show (!true) = false from rfl, config_Enter.j0, if_neg (by decide), hI k (by omega), Option.bind_some, up_len']
        exact h3 k (by omega)
  · have hb : (formedB (sh l) && sB (sh l) i) = false := by
      cases h1 : formedB (sh l) <;> cases h2 : sB (sh l) i <;> simp_all
    rw [hb] at hF
    rw [if_neg (fun e => hc ⟨e.1, e.2.1⟩)]
    refine ⟨K + 1, fun k hk => ?_⟩
    dsimp only
    rw [config_Enter.f, hF k (by omega), Option.bind_some, if_neg (by decide)]
    exact hj k (by omega)
/-- The document's way up. -/
theorem renter_up (l : List S140) (h : WF (shr l)) {i : Nat} (hi : i < l.length) (sc : Int) : ∀ a : Nat, a < l.length → ∀ k0 : Nat, (k0 = a ∨ k0 ∈ anc (shr l) a) → (shr l).par k0 = sc →
    Ev (fun k => tumbrelref09_Enter.l0 k l sc (i : Int) (a : Int)) (W (shr l) i k0) := by
  intro a
  induction a using Nat.strongRecOn with
  | _ a ih =>
    intro ha k0 hk0 hp
    have hpa : (rd_T140 l (a : Int)).f1 = (shr l).par a := rfl
    by_cases hpar : (shr l).par a = sc
    · have : k0 = a := top_one h (i := a) ha hk0 (.inl rfl) (hp.trans hpar.symm)
      subst this
      obtain ⟨K, hK⟩ := rtoward_ev l h hi _ k0 rfl ha
      dsimp only at hK
      refine ⟨K + 1, fun k hk => ?_⟩
      obtain ⟨k, rfl⟩ : ∃ m, k = m + 1 := ⟨k - 1, by omega⟩
      dsimp only
      rw [tumbrelref09_Enter.l0, if_pos (by omega), if_pos (by omega), hpa, if_pos hpar, hK k (by omega), Option.bind_some]
    · have hne : k0 ≠ a := fun e => hpar (e ▸ hp)
      have hm := hk0.resolve_left hne
      rcases ok_cases (shr l) (h.ok a ha) with h2 | ⟨q, hq, hqa, h2⟩
      · rw [h2.2] at hm
        cases hm
      · rw [h2] at hm
        obtain ⟨K, hK⟩ := ih q hqa (by omega) k0 (List.mem_cons.mp hm) hp
        dsimp only at hK
        refine ⟨K + 1, fun k hk => ?_⟩
        obtain ⟨k, rfl⟩ : ∃ m, k = m + 1 := ⟨k - 1, by omega⟩
        dsimp only
        rw [tumbrelref09_Enter.l0, if_pos (by omega), if_pos (by omega), hpa, if_neg hpar, ← hq]
        exact hK k (by omega)
theorem rEnter_ev (l : List S140) (sc i : Int) : Ev (fun k => tumbrelref09_Enter.f k l sc i) (eI (shr l) sc i) := by
  obtain ⟨K, hF⟩ := rFormed_ev l
  dsimp only at hF
  have hn : (shr l).n = l.length := rfl
  have hj : ∀ k, 1 ≤ k → tumbrelref09_Enter.j0 k l sc i true = some [] := fun k hk => by
    obtain ⟨k, rfl⟩ : ∃ m, k = m + 1 := ⟨k - 1, by omega⟩
    rw [tumbrelref09_Enter.j0, if_pos rfl]
  unfold eI
  cases hf : formedB (shr l) with
  | false =>
    rw [hf] at hF
    rw [if_neg (by simp)]
    refine ⟨K + 1, fun k hk => ?_⟩
    dsimp only
    rw [tumbrelref09_Enter.f, hF k (by omega), Option.bind_some, if_neg (by decide)]
    exact hj k (by omega)
  | true =>
    rw [hf] at hF
    have h := (formedB_iff (shr l)).mp hf
    by_cases h1 : 0 ≤ i ∧ i < (l.length : Int)
    · have e1 : sB (shr l) i = true := decide_eq_true h1
      by_cases hsc : sc = i
      · rw [if_neg (fun e => e.2.2.1 hsc)]
        refine ⟨K + 1, fun k hk => ?_⟩
        dsimp only
        rw [tumbrelref09_Enter.f, hF k (by omega), Option.bind_some, if_pos rfl, rstate_f, Option.bind_some, decide_eq_true h1, if_pos rfl, if_pos hsc]
        exact hj k (by omega)
      · obtain ⟨K1, hW⟩ := rWithin_ev l i sc
        dsimp only at hW
        rw [hf, Bool.true_and] at hW
        cases hw : wB (shr l) i sc with
        | false =>
          rw [hw] at hW
          rw [if_neg (by simp)]
          refine ⟨K + K1 + 1, fun k hk => ?_⟩
          dsimp only
          rw [tumbrelref09_Enter.f, hF k (by omega), Option.bind_some, if_pos rfl, rstate_f, Option.bind_some, decide_eq_true h1, if_pos rfl, if_neg hsc, hW k (by omega), Option.bind_some]
          exact hj k (by omega)
        | true =>
          rw [hw] at hW
          rw [if_pos ⟨rfl, e1, hsc, rfl⟩]
          obtain ⟨a, rfl⟩ : ∃ a : Nat, i = a := ⟨i.toNat, by omega⟩
          rw [Int.toNat_natCast]
          have han : a < (shr l).n := by rw [hn]; omega
          have hsc2 : sc = -1 ∨ ∃ p : Nat, sc = p ∧ p ∈ anc (shr l) a := by
            rcases of_decide_eq_true (wB_st hw e1) with h5 | h5
            · exact .inl h5
            · obtain ⟨p, rfl⟩ : ∃ p : Nat, sc = p := ⟨sc.toNat, by omega⟩
              rw [wB_nat h han (by omega)] at hw
              rcases (within_iff h han (by omega)).mp (of_decide_eq_true hw) with e | e
              · exact absurd (by omega) hsc
              · exact .inr ⟨_, rfl, e⟩
          obtain ⟨k0, hk0, hp0⟩ := top_some h han hsc2
          rw [top_find h han hk0 hp0]
          obtain ⟨K2, h2⟩ := renter_up l h (i := a) (by omega) sc a (by omega) k0 hk0 hp0
          dsimp only at h2
          refine ⟨K + K1 + K2 + 1, fun k hk => ?_⟩
          obtain ⟨k, rfl⟩ : ∃ m, k = m + 1 := ⟨k - 1, by omega⟩
          dsimp only
          rw [tumbrelref09_Enter.f, hF (k + 1) (by omega), Option.bind_some, if_pos rfl, rstate_f, Option.bind_some, decide_eq_true h1, if_pos rfl, if_neg hsc, hW (k + 1) (by omega), Option.bind_some, show (!true) = false from rfl, tumbrelref09_Enter.j0, if_neg (by decide)]
          exact h2 k (by omega)
    · rw [if_neg (fun e => h1 (of_decide_eq_true e.2.1))]
      refine ⟨K + 1, fun k hk => ?_⟩
      dsimp only
      rw [tumbrelref09_Enter.f, hF k (by omega), Option.bind_some, if_pos rfl, rstate_f, Option.bind_some, decide_eq_false h1, if_neg (by decide)]
      exact hj k (by omega)
end Go.Proofs.Ytjghlomkimoeoaa.Tr
