/- The functions of trees, as they are printed, of formed states: what is entered by default. -/
import Derived.Test.YtjghlomkimoeoaaTrQ
namespace Go.Proofs.Ytjghlomkimoeoaa.Tr
open Go.RowKit Go.Proofs.YtjghlomkimoeoaaW.PrintWords Go.Proofs.YtjghlomkimoeoaaW.PrintLast Go.Proofs.YtjghlomkimoeoaaW.PrintMore Go.Proofs.Ytjghlomkimoeoaa.PConfigAsks
set_option linter.unusedVariables false
set_option linter.unusedSimpArgs false
variable {s : Sh}
def sB (s : Sh) (i : Int) : Bool := decide (0 ≤ i ∧ i < (s.n : Int))
/-! ### how long what is entered is -/
theorem inn_len2 (h : WF s) {i : Int} {e : Nat} (he : endOf s i e) (g : Nat → Nat) (b0 : Nat) (hg : ∀ x, b0 ≤ x → x < s.n → (g x : Int) ≤ s.beh x - x) : ∀ (d b : Nat), e - b = d → b0 ≤ b → b ≤ e → (b = e ∨ s.par b = i) → ((inn s i b).map g).sum ≤ e - b := by
  intro d
  induction d using Nat.strongRecOn with
  | _ d ih =>
    intro b hd hb0 hb hor
    by_cases hbe : b = e
    · subst hbe
      rw [inn_at_end h he]
      exact Nat.zero_le _
    · have hp := hor.resolve_left hbe
      obtain ⟨c, hc, h1, h2, h3⟩ := step_in h he (by omega) hp
      have hen := end_le h he
      have := ih (e - c) (by omega) c rfl (by omega) h2 h3
      have h4 := hg b hb0 (by omega)
      rw [inn_next h (by omega) hp hc, List.map_cons, List.sum_cons]
      omega
/-- A part for each one right in i is no longer than i's own. -/
theorem parts_len (h : WF s) {i : Nat} (hi : i < s.n) (f : Nat → List Int) (hf : ∀ x, i < x → x < s.n → ((f x).length : Int) ≤ s.beh x - x) : (((inn s i 0).flatMap f).length : Int) ≤ s.beh i - i - 1 := by
  have hl := beh_lt h hi
  obtain ⟨e, he⟩ : ∃ e : Nat, s.beh i = e := ⟨(s.beh i).toNat, by omega⟩
  have hE : endOf s (i : Int) e := .inr ⟨i, rfl, hi, he⟩
  obtain ⟨f1, f2, f3⟩ := first_ok h hE
  have hfi : firstOf (i : Int) = i + 1 := by unfold firstOf; omega
  have := inn_len2 h hE (fun x => (f x).length) (i + 1) (fun x h1 h2 => hf x (by omega) h2) (e - firstOf i) (firstOf i) rfl (by omega) f1 f2
  rw [f3] at this
  rw [List.length_flatMap]
  omega
theorem D_len (h : WF s) : ∀ (d i : Nat), s.n - i = d → i < s.n → ((D s i).length : Int) ≤ s.beh i - i := by
  intro d
  induction d using Nat.strongRecOn with
  | _ d ih =>
    intro i hd hi
    have hl := beh_lt h hi
    have hp := parts_len h hi (D s) fun x h1 h2 => ih (s.n - x) (by omega) x rfl h2
    rw [D_eq h hi, List.length_cons]
    split
    · omega
    · cases hL : inn s i 0 with
      | nil => simp; omega
      | cons k L =>
        have hk : k ∈ inn s i 0 := by rw [hL]; exact List.mem_cons_self ..
        have hk2 := inn_gt h hi hk
        rw [hL, List.flatMap_cons, List.length_append] at hp
        simp only [List.take_succ_cons, List.take_zero, List.flatMap_cons, List.flatMap_nil, List.append_nil]
        omega
theorem D_40 (h : WF s) {i : Nat} (hi : i < s.n) : (D s i).length ≤ 40 := by
  have := D_len h _ i rfl hi
  have := beh_lt h hi
  have := h.le
  omega
theorem W_len (h : WF s) (t : Nat) : ∀ (d a : Nat), s.n - a = d → a < s.n → ((W s t a).length : Int) ≤ s.beh a - a := by
  intro d
  induction d using Nat.strongRecOn with
  | _ d ih =>
    intro a hd ha
    have hl := beh_lt h ha
    rw [W_eq h ha]
    split
    · rename_i e
      subst e
      exact D_len h _ a rfl ha
    · have hp := parts_len h ha (fun k => if k ≤ t ∧ (t : Int) < s.beh k then W s t k else if s.all a then D s k else []) fun x h1 h2 => by
        have hx := beh_lt h h2
        split
        · exact ih (s.n - x) (by omega) x rfl h2
        · split
          · exact D_len h _ x rfl h2
          · simp
            omega
      rw [List.length_cons]
      omega
theorem W_40 (h : WF s) {t i : Nat} (hi : i < s.n) : (W s t i).length ≤ 40 := by
  have := W_len h t _ i rfl hi
  have := beh_lt h hi
  have := h.le
  omega
theorem inn_40 (h : WF s) (i : Int) (k : Nat) : (inn s i k).length ≤ 40 := by
  unfold inn
  have h1 := List.length_filter_le (fun x => decide (s.par x = i)) (List.range' k (s.n - k))
  rw [List.length_range'] at h1
  have := h.le
  omega
theorem up_len' (L : List Nat) : (up L).length = L.length := by simp [up]
theorem rd_up (L : List Nat) (j : Nat) (hj : j < L.length) : rd (up L) (j : Int) = (L[j] : Int) := by
  unfold rd up
  rw [Int.toNat_natCast, List.getD_eq_getElem?_getD, List.getElem?_map, List.getElem?_eq_getElem hj]
  rfl
/-! ### what is entered by default -/
theorem enter_all (l : List S86) (h : WF (sh l)) {i : Nat} (hi : i < l.length) (hall : (sh l).all i = true) (L : List Nat) (hL : ∀ x ∈ L, x < l.length ∧ Ev (fun k => config_enter.f k l (x : Int)) (D (sh l) x)) (hLl : L.length ≤ 40) :
    ∀ (d j : Nat) (acc : List Int), j + d = L.length → acc.length ≤ 1 + 40 * j → Ev (fun k => config_enter.l0 k l (i : Int) acc (up L) (L.length : Int) (j : Int)) (acc ++ (L.drop j).flatMap (D (sh l)))
  | 0, j, acc, hd, hacc => by
    refine ⟨1, fun k hk => ?_⟩
    obtain ⟨k, rfl⟩ : ∃ m, k = m + 1 := ⟨k - 1, by omega⟩
    dsimp only
    rw [config_enter.l0, if_neg (by omega), List.drop_eq_nil_of_le (by omega)]
    simp
  | d + 1, j, acc, hd, hacc => by
    have hj : j < L.length := by omega
    obtain ⟨h1, K1, hK1⟩ := hL L[j] (List.getElem_mem hj)
    dsimp only at hK1
    have h40 := D_40 h (i := L[j]) h1
    obtain ⟨K, hK⟩ := enter_all l h hi hall L hL hLl d (j + 1) (acc ++ D (sh l) L[j]) (by omega) (by rw [List.length_append]; omega)
    dsimp only at hK
    have ha : (rd_T86 l (i : Int)).f4 = true := hall
    refine ⟨K + K1 + 1, fun k hk => ?_⟩
    obtain ⟨k, rfl⟩ : ∃ m, k = m + 1 := ⟨k - 1, by omega⟩
    dsimp only
    rw [config_enter.l0, if_pos (by omega), if_pos (by omega), if_pos (by rw [up_len']; omega), rd_up L j hj, hK1 k (by omega), Option.bind_some, if_pos (by omega), Option.bind_some, if_pos (by omega), if_pos (by omega), if_pos ha, wsucc (by omega), hK k (by omega), List.drop_eq_getElem_cons hj, List.flatMap_cons, List.append_assoc]
theorem enter_ev (l : List S86) (h : WF (sh l)) : ∀ (d i : Nat), l.length - i = d → i < l.length → Ev (fun k => config_enter.f k l (i : Int)) (D (sh l) i) := by
  intro d
  induction d using Nat.strongRecOn with
  | _ d ih =>
    intro i hd hi
    have hn : (sh l).n = l.length := rfl
    have hf := (formedB_iff (sh l)).mpr h
    obtain ⟨K, hI⟩ := Inner_ev l (i : Int)
    dsimp only at hI
    rw [if_pos ⟨hf, decide_eq_true (.inr (by rw [hn]; omega))⟩] at hI
    have hL : ∀ x ∈ inn (sh l) i 0, x < l.length ∧ Ev (fun k => config_enter.f k l (x : Int)) (D (sh l) x) := fun x hx => by
      have hx2 := inn_gt h hi hx
      exact ⟨hx2.2, ih (l.length - x) (by omega) x rfl hx2.2⟩
    have h40 := inn_40 h (i : Int) 0
    rw [D_eq h hi]
    cases hall : (sh l).all i with
    | true =>
      obtain ⟨K1, h1⟩ := enter_all l h hi hall (inn (sh l) i 0) hL h40 (inn (sh l) i 0).length 0 [(i : Int)] (by omega) (by simp)
      dsimp only at h1
      refine ⟨K + K1 + 1, fun k hk => ?_⟩
      obtain ⟨k, rfl⟩ : ∃ m, k = m + 1 := ⟨k - 1, by omega⟩
      dsimp only
      rw [config_enter.f, hI k (by omega), Option.bind_some, up_len', if_pos rfl]
      exact h1 k (by omega)
    | false =>
      rw [if_neg (by decide)]
      cases hLc : inn (sh l) i 0 with
      | nil =>
        rw [hLc] at hI
        refine ⟨K + 2, fun k hk => ?_⟩
        obtain ⟨k, rfl⟩ : ∃ m, k = m + 2 := ⟨k - 2, by omega⟩
        dsimp only
        rw [config_enter.f, hI (k + 1) (by omega), Option.bind_some, config_enter.l0, if_neg (by simp [up])]
        rfl
      | cons x L =>
        rw [hLc] at hI hL h40
        obtain ⟨hx, K1, hK1⟩ := hL x (List.mem_cons_self ..)
        dsimp only at hK1
        have hD := D_40 h (i := x) hx
        have ha : (rd_T86 l (i : Int)).f4 = false := hall
        refine ⟨K + K1 + 2, fun k hk => ?_⟩
        obtain ⟨k, rfl⟩ : ∃ m, k = m + 2 := ⟨k - 2, by omega⟩
        dsimp only
        have hr : rd (up (x :: L)) 0 = (x : Int) := rd_up (x :: L) 0 (by simp)
        rw [config_enter.f, hI (k + 1) (by omega), Option.bind_some, config_enter.l0, if_pos (by simp [up]), if_pos (by omega), if_pos (by simp [up]), hr, hK1 k (by omega), Option.bind_some, if_pos (by simp; omega), Option.bind_some, if_pos (by omega), if_pos (by omega), if_neg (by rw [ha]; decide)]
        simp
theorem rdef_all (l : List S140) (h : WF (shr l)) {i : Nat} (hi : i < l.length) (hall : (shr l).all i = true) (L : List Nat) (hL : ∀ x ∈ L, x < l.length ∧ Ev (fun k => tumbrelref09_byDefault.f k l (x : Int)) (D (shr l) x)) (hLl : L.length ≤ 40) :
    ∀ (d j : Nat) (acc : List Int), j + d = L.length → acc.length ≤ 1 + 40 * j → Ev (fun k => tumbrelref09_byDefault.l0 k l (i : Int) acc (up L) (L.length : Int) (j : Int)) (acc ++ (L.drop j).flatMap (D (shr l)))
  | 0, j, acc, hd, hacc => by
    refine ⟨1, fun k hk => ?_⟩
    obtain ⟨k, rfl⟩ : ∃ m, k = m + 1 := ⟨k - 1, by omega⟩
    dsimp only
    rw [tumbrelref09_byDefault.l0, if_neg (by omega), List.drop_eq_nil_of_le (by omega)]
    simp
  | d + 1, j, acc, hd, hacc => by
    have hj : j < L.length := by omega
    obtain ⟨h1, K1, hK1⟩ := hL L[j] (List.getElem_mem hj)
    dsimp only at hK1
    have h40 := D_40 h (i := L[j]) h1
    obtain ⟨K, hK⟩ := rdef_all l h hi hall L hL hLl d (j + 1) (acc ++ D (shr l) L[j]) (by omega) (by rw [List.length_append]; omega)
    dsimp only at hK
    have ha : (rd_T140 l (i : Int)).f4 = true := hall
    refine ⟨K + K1 + 1, fun k hk => ?_⟩
    obtain ⟨k, rfl⟩ : ∃ m, k = m + 1 := ⟨k - 1, by omega⟩
    dsimp only
    rw [tumbrelref09_byDefault.l0, if_pos (by omega), if_pos (by omega), if_pos (by omega), if_pos ha, if_pos (by omega), if_pos (by rw [up_len']; omega), rd_up L j hj, hK1 k (by omega), Option.bind_some, if_pos (by omega), wsucc (by omega), hK k (by omega), List.drop_eq_getElem_cons hj, List.flatMap_cons, List.append_assoc]
theorem rdef_skip (l : List S140) {i : Nat} (hi : i < l.length) (hall : (shr l).all i = false) (L : List Nat) (hLl : L.length ≤ 40) :
    ∀ (d j : Nat) (acc : List Int), j + d = L.length → 0 < j → Ev (fun k => tumbrelref09_byDefault.l0 k l (i : Int) acc (up L) (L.length : Int) (j : Int)) acc
  | 0, j, acc, hd, hj0 => by
    refine ⟨1, fun k hk => ?_⟩
    obtain ⟨k, rfl⟩ : ∃ m, k = m + 1 := ⟨k - 1, by omega⟩
    dsimp only
    rw [tumbrelref09_byDefault.l0, if_neg (by omega)]
  | d + 1, j, acc, hd, hj0 => by
    obtain ⟨K, hK⟩ := rdef_skip l hi hall L hLl d (j + 1) acc (by omega) (by omega)
    dsimp only at hK
    have ha : (rd_T140 l (i : Int)).f4 = false := hall
    refine ⟨K + 1, fun k hk => ?_⟩
    obtain ⟨k, rfl⟩ : ∃ m, k = m + 1 := ⟨k - 1, by omega⟩
    dsimp only
    rw [tumbrelref09_byDefault.l0, if_pos (by omega), if_pos (by omega), if_pos (by omega), if_neg (by rw [ha]; decide), if_neg (by omega), wsucc (by omega), hK k (by omega)]
theorem rdef_ev (l : List S140) (h : WF (shr l)) : ∀ (d i : Nat), l.length - i = d → i < l.length → Ev (fun k => tumbrelref09_byDefault.f k l (i : Int)) (D (shr l) i) := by
  intro d
  induction d using Nat.strongRecOn with
  | _ d ih =>
    intro i hd hi
    have hn : (shr l).n = l.length := rfl
    have hf := (formedB_iff (shr l)).mpr h
    obtain ⟨K, hI⟩ := rInner_ev l (i : Int)
    dsimp only at hI
    rw [if_pos ⟨hf, decide_eq_true (.inr (by rw [hn]; omega))⟩] at hI
    have hL : ∀ x ∈ inn (shr l) i 0, x < l.length ∧ Ev (fun k => tumbrelref09_byDefault.f k l (x : Int)) (D (shr l) x) := fun x hx => by
      have hx2 := inn_gt h hi hx
      exact ⟨hx2.2, ih (l.length - x) (by omega) x rfl hx2.2⟩
    have h40 := inn_40 h (i : Int) 0
    rw [D_eq h hi]
    cases hall : (shr l).all i with
    | true =>
      obtain ⟨K1, h1⟩ := rdef_all l h hi hall (inn (shr l) i 0) hL h40 (inn (shr l) i 0).length 0 [(i : Int)] (by omega) (by simp)
      dsimp only at h1
      refine ⟨K + K1 + 1, fun k hk => ?_⟩
      obtain ⟨k, rfl⟩ : ∃ m, k = m + 1 := ⟨k - 1, by omega⟩
      dsimp only
      rw [tumbrelref09_byDefault.f, hI k (by omega), Option.bind_some, up_len', if_pos rfl]
      exact h1 k (by omega)
    | false =>
      rw [if_neg (by decide)]
      cases hLc : inn (shr l) i 0 with
      | nil =>
        rw [hLc] at hI
        refine ⟨K + 2, fun k hk => ?_⟩
        obtain ⟨k, rfl⟩ : ∃ m, k = m + 2 := ⟨k - 2, by omega⟩
        dsimp only
        rw [tumbrelref09_byDefault.f, hI (k + 1) (by omega), Option.bind_some, tumbrelref09_byDefault.l0, if_neg (by simp [up])]
        rfl
      | cons x L =>
        rw [hLc] at hI hL h40
        obtain ⟨hx, K1, hK1⟩ := hL x (List.mem_cons_self ..)
        dsimp only at hK1
        have hD := D_40 h (i := x) hx
        have ha : (rd_T140 l (i : Int)).f4 = false := hall
        obtain ⟨K2, hK2⟩ := rdef_skip l hi hall (x :: L) h40 L.length 1 ([(i : Int)] ++ D (shr l) x) (by simp; omega) (by omega)
        dsimp only at hK2
        refine ⟨K + K1 + K2 + 2, fun k hk => ?_⟩
        obtain ⟨k, rfl⟩ : ∃ m, k = m + 2 := ⟨k - 2, by omega⟩
        dsimp only
        have hr : rd (up (x :: L)) 0 = (x : Int) := rd_up (x :: L) 0 (by simp)
        rw [tumbrelref09_byDefault.f, hI (k + 1) (by omega), Option.bind_some, up_len', tumbrelref09_byDefault.l0, if_pos (by simp), if_pos (by omega), if_pos (by omega), if_neg (by rw [ha]; decide), if_pos rfl, if_pos (by omega), if_pos (by simp [up]), hr, hK1 k (by omega), Option.bind_some, if_pos (by simp; omega)]
        rw [show wrap64 ((0 : Int) + 1) = ((1 : Nat) : Int) from by unfold wrap64; omega]
        refine (hK2 k (by omega)).trans ?_
        simp
end Go.Proofs.Ytjghlomkimoeoaa.Tr
