/- States that lie in one another: plain facts, no program in sight. -/
import Derived.Below
namespace Go.Proofs.Ytjghlomkimoeoaa.Tr
set_option linter.unusedVariables false
/-- Of each state: its parent, its depth, the first number behind it, whether it is a leaf, has all; and how many there are. -/
structure Sh where
  n : Nat
  par : Nat → Int
  dep : Nat → Int
  beh : Nat → Int
  leaf : Nat → Bool
  all : Nat → Bool
def cut (p : Int) : List Nat → List Nat
  | [] => []
  | x :: s => if (x : Int) = p then x :: s else cut p s
theorem cut_suffix (p : Int) : ∀ s : List Nat, cut p s <:+ s
  | [] => List.suffix_refl _
  | x :: s => by
    unfold cut
    by_cases h : (x : Int) = p
    · rw [if_pos h]
      exact List.suffix_refl _
    · rw [if_neg h]
      exact (cut_suffix p s).trans (List.suffix_cons x s)
theorem cut_head (p : Int) : ∀ s : List Nat, cut p s = [] ∨ ∃ (x : Nat) (r : List Nat), (x : Int) = p ∧ cut p s = x :: r
  | [] => .inl rfl
  | x :: s => by
    unfold cut
    by_cases h : (x : Int) = p
    · rw [if_pos h]
      exact .inr ⟨x, s, h, rfl⟩
    · rw [if_neg h]
      exact cut_head p s
theorem cut_nil {p : Int} : ∀ {s : List Nat}, cut p s = [] → ∀ x ∈ s, (x : Int) ≠ p
  | [], _, x, hx => by cases hx
  | y :: s, h, x, hx => by
    unfold cut at h
    by_cases hy : (y : Int) = p
    · rw [if_pos hy] at h
      cases h
    · rw [if_neg hy] at h
      rcases List.mem_cons.mp hx with rfl | hx
      · exact hy
      · exact cut_nil h x hx
theorem cut_none {p : Int} : ∀ {s : List Nat}, (∀ x ∈ s, (x : Int) ≠ p) → cut p s = []
  | [], _ => rfl
  | y :: s, h => by
    unfold cut
    rw [if_neg (h y (List.mem_cons_self ..))]
    exact cut_none fun x hx => h x (List.mem_cons_of_mem _ hx)
variable (s : Sh)
/-- What is open ahead of a state, the innermost first. -/
def stk : Nat → List Nat
  | 0 => []
  | i + 1 => i :: cut (s.par i) (stk i)
/-- What a state lies in, the innermost first. -/
def anc (i : Nat) : List Nat := cut (s.par i) (stk s i)
theorem stk_succ (i : Nat) : stk s (i + 1) = i :: anc s i := rfl
theorem anc_stk (i : Nat) : anc s i <:+ stk s i := cut_suffix _ _
theorem stk_lt : ∀ {i x : Nat}, x ∈ stk s i → x < i
  | 0, x, h => by cases h
  | i + 1, x, h => by
    rw [stk_succ] at h
    rcases List.mem_cons.mp h with rfl | h
    · omega
    · have := stk_lt ((anc_stk s i).mem h)
      omega
theorem anc_lt {i x : Nat} (h : x ∈ anc s i) : x < i := stk_lt s ((anc_stk s i).mem h)
theorem suf_tail : ∀ {i x : Nat} {r : List Nat}, x :: r <:+ stk s i → r = anc s x
  | 0, x, r, h => by simp [stk] at h
  | i + 1, x, r, h => by
    rw [stk_succ] at h
    rcases List.suffix_cons_iff.mp h with h | h
    · cases h
      rfl
    · exact suf_tail (h.trans (anc_stk s i))
theorem anc_cases (i : Nat) : anc s i = [] ∨ ∃ p : Nat, (p : Int) = s.par i ∧ p < i ∧ anc s i = p :: anc s p := by
  rcases cut_head (s.par i) (stk s i) with h | ⟨p, r, hp, h⟩
  · exact .inl h
  · have h2 : p :: r <:+ stk s i := by rw [← h]; exact cut_suffix _ _
    refine .inr ⟨p, hp, anc_lt s (i := i) ?_, ?_⟩
    · show p ∈ cut _ _
      rw [h]
      exact List.mem_cons_self ..
    · rw [← suf_tail s h2]
      exact h
/-- Is a state's parent one that is open, or none? -/
def ok (i : Nat) : Prop := s.par i = -1 ∨ ∃ p ∈ stk s i, (p : Int) = s.par i
theorem ok_cases {i : Nat} (h : ok s i) : (s.par i = -1 ∧ anc s i = []) ∨ ∃ p : Nat, (p : Int) = s.par i ∧ p < i ∧ anc s i = p :: anc s p := by
  rcases anc_cases s i with h1 | h1
  · rcases h with h | ⟨p, hp, h⟩
    · exact .inl ⟨h, h1⟩
    · exact absurd h (cut_nil h1 p hp)
  · exact .inr h1
theorem ok_of {i : Nat} (h : anc s i = [] → s.par i = -1) : ok s i := by
  rcases anc_cases s i with h1 | ⟨p, hp, _, h1⟩
  · exact .inl (h h1)
  · exact .inr ⟨p, (anc_stk s i).mem (by rw [h1]; exact List.mem_cons_self ..), hp⟩
theorem anc_nil {i : Nat} (h : s.par i = -1) : anc s i = [] := cut_none fun x _ => by omega
theorem anc_trans : ∀ {i x y : Nat}, x ∈ anc s i → y ∈ anc s x → y ∈ anc s i := by
  intro i
  induction i using Nat.strongRecOn with
  | _ i ih =>
    intro x y hx hy
    rcases anc_cases s i with h | ⟨p, _, hp, h⟩
    · rw [h] at hx
      cases hx
    · rw [h] at hx ⊢
      rcases List.mem_cons.mp hx with rfl | hx
      · exact List.mem_cons_of_mem _ hy
      · exact List.mem_cons_of_mem _ (ih p hp hx hy)
/-- What is open stays open in between. -/
theorem stay : ∀ {b x c : Nat}, x ∈ stk s b → x < c → c < b → x ∈ anc s c
  | 0, x, c, h, _, _ => by cases h
  | b + 1, x, c, h, h1, h2 => by
    rw [stk_succ] at h
    rcases List.mem_cons.mp h with rfl | h
    · omega
    · by_cases hc : c = b
      · subst hc
        exact h
      · exact stay ((anc_stk s b).mem h) h1 (by omega)
/-- b is the first number behind i. -/
def isB (i b : Nat) : Prop := i < b ∧ b ≤ s.n ∧ i ∈ stk s b ∧ (b = s.n ∨ i ∉ anc s b)
theorem isB_le {i b c : Nat} (h : isB s i b) (h2 : isB s i c) : b ≤ c := by
  refine Nat.le_of_not_lt fun hlt => ?_
  obtain ⟨h1, _, h3, h4⟩ := h
  obtain ⟨k1, k2, k3, k4⟩ := h2
  have := stay s h3 k1 hlt
  rcases k4 with k4 | k4
  · omega
  · exact k4 this
theorem isB_one {i b c : Nat} (h : isB s i b) (h2 : isB s i c) : b = c := Nat.le_antisymm (isB_le s h h2) (isB_le s h2 h)
theorem isB_some : ∀ (d i b : Nat), s.n - b = d → i < b → b ≤ s.n → i ∈ stk s b → ∃ c, isB s i c
  | 0, i, b, hd, h1, h2, h3 => ⟨b, h1, h2, h3, .inl (by omega)⟩
  | d + 1, i, b, hd, h1, h2, h3 => by
    by_cases h : i ∈ anc s b
    · exact isB_some d i (b + 1) (by omega) (by omega) (by omega) (by rw [stk_succ]; exact List.mem_cons_of_mem _ h)
    · exact ⟨b, h1, h2, h3, .inr h⟩
/-- Formed. -/
structure WF : Prop where
  le : s.n ≤ 40
  ok : ∀ i, i < s.n → ok s i
  dep : ∀ i, i < s.n → s.dep i = (anc s i).length
  beh : ∀ i, i < s.n → ∃ b : Nat, s.beh i = b ∧ isB s i b
  leaf : ∀ i, i < s.n → s.leaf i = decide (s.beh i = i + 1)
/-- What the program looks at. -/
structure WP : Prop where
  le : s.n ≤ 40
  pop : ∀ i, i < s.n → ∀ x ∈ stk s i, x ∉ anc s i → s.beh x = i
  one : ∀ i, i < s.n → anc s i = [] → s.par i = -1
  dep : ∀ i, i < s.n → s.dep i = (anc s i).length
  leaf : ∀ i, i < s.n → s.leaf i = decide (s.beh i = i + 1)
  last : ∀ x ∈ stk s s.n, s.beh x = s.n
theorem wf_wp (h : WF s) : WP s where
  le := h.le
  pop i hi x hx hn := by
    obtain ⟨b, hb, hB⟩ := h.beh x (by have := stk_lt s hx; omega)
    have : isB s x i := ⟨stk_lt s hx, by omega, hx, .inr hn⟩
    rw [hb, isB_one s hB this]
  one i hi ha := by
    rcases ok_cases s (h.ok i hi) with h1 | ⟨p, _, _, h1⟩
    · exact h1.1
    · rw [ha] at h1
      cases h1
  dep := h.dep
  leaf := h.leaf
  last x hx := by
    obtain ⟨b, hb, hB⟩ := h.beh x (stk_lt s hx)
    have : isB s x s.n := ⟨stk_lt s hx, Nat.le_refl _, hx, .inl rfl⟩
    rw [hb, isB_one s hB this]
theorem wp_wf (h : WP s) : WF s where
  le := h.le
  ok i hi := ok_of s (h.one i hi)
  dep := h.dep
  leaf := h.leaf
  beh i hi := by
    obtain ⟨b, hB⟩ := isB_some s (s.n - (i + 1)) i (i + 1) rfl (by omega) (by omega) (by rw [stk_succ]; exact List.mem_cons_self ..)
    refine ⟨b, ?_, hB⟩
    obtain ⟨h1, h2, h3, h4⟩ := hB
    by_cases hb : b = s.n
    · subst hb
      exact h.last i h3
    · exact h.pop b (by omega) i h3 (h4.resolve_left hb)
theorem wf_iff : WF s ↔ WP s := ⟨wf_wp s, wp_wf s⟩
variable {s}
theorem in_iff (h : WF s) {i j : Nat} (hi : i < s.n) (hj : j < s.n) : j ∈ anc s i ↔ j < i ∧ (i : Int) < s.beh j := by
  obtain ⟨b, hb, h1, h2, h3, h4⟩ := h.beh j hj
  constructor
  · intro hm
    have hlt := anc_lt s hm
    refine ⟨hlt, ?_⟩
    rw [hb]
    by_cases hbi : b ≤ i
    · exfalso
      by_cases hbe : b = i
      · subst hbe
        exact (h4.resolve_left (by omega)) hm
      · exact (h4.resolve_left (by omega)) (stay s ((anc_stk s i).mem hm) h1 (by omega))
    · omega
  · rintro ⟨hlt, hlt2⟩
    exact stay s h3 hlt (by omega)
theorem beh_lt (h : WF s) {i : Nat} (hi : i < s.n) : (i : Int) < s.beh i ∧ s.beh i ≤ s.n := by
  obtain ⟨b, hb, h1, h2, _⟩ := h.beh i hi
  omega
/-- Within, as both have it. -/
theorem within_iff (h : WF s) {i j : Nat} (hi : i < s.n) (hj : j < s.n) : (j ≤ i ∧ (i : Int) < s.beh j) ↔ (i = j ∨ j ∈ anc s i) := by
  rw [in_iff h hi hj]
  have := beh_lt h hj
  constructor
  · rintro ⟨h1, h2⟩
    by_cases he : i = j
    · exact .inl he
    · exact .inr ⟨by omega, h2⟩
  · rintro (rfl | ⟨h1, h2⟩)
    · exact ⟨Nat.le_refl _, this.1⟩
    · exact ⟨by omega, h2⟩
theorem stk_pw : ∀ i, (stk s i).Pairwise (· > ·)
  | 0 => List.Pairwise.nil
  | i + 1 => by
    rw [stk_succ]
    exact List.pairwise_cons.mpr ⟨fun x hx => anc_lt s hx, (stk_pw i).sublist (anc_stk s i).sublist⟩
theorem anc_pw (i : Nat) : (anc s i).Pairwise (· > ·) := (stk_pw i).sublist (anc_stk s i).sublist
/-- The first of falling numbers that are in others. -/
theorem find_max {A : List Nat} {p : Nat → Bool} (hA : A.Pairwise (· > ·)) {m : Nat} : A.find? p = some m ↔ m ∈ A ∧ p m = true ∧ ∀ x ∈ A, p x = true → x ≤ m := by
  induction A with
  | nil => simp
  | cons a A ih =>
    obtain ⟨h1, h2⟩ := List.pairwise_cons.mp hA
    cases hp : p a with
    | true =>
      rw [List.find?_cons_of_pos (h := hp)]
      constructor
      · intro h
        cases h
        refine ⟨List.mem_cons_self .., hp, fun x hx _ => ?_⟩
        rcases List.mem_cons.mp hx with rfl | hx
        · exact Nat.le_refl _
        · exact Nat.le_of_lt (h1 x hx)
      · rintro ⟨hm, hpm, hle⟩
        have h3 := hle a (List.mem_cons_self ..) hp
        rcases List.mem_cons.mp hm with rfl | hm
        · rfl
        · have := h1 m hm
          omega
    | false =>
      rw [List.find?_cons_of_neg (h := by simp [hp]), ih h2]
      constructor
      · rintro ⟨hm, hpm, hle⟩
        refine ⟨List.mem_cons_of_mem _ hm, hpm, fun x hx hpx => ?_⟩
        rcases List.mem_cons.mp hx with rfl | hx
        · rw [hp] at hpx
          cases hpx
        · exact hle x hx hpx
      · rintro ⟨hm, hpm, hle⟩
        rcases List.mem_cons.mp hm with rfl | hm
        · rw [hp] at hpm
          cases hpm
        · exact ⟨hm, hpm, fun x hx => hle x (List.mem_cons_of_mem _ hx)⟩
theorem find_comm {A B : List Nat} {p q : Nat → Bool} (hA : A.Pairwise (· > ·)) (hB : B.Pairwise (· > ·)) (h : ∀ x, (x ∈ A ∧ p x = true) ↔ (x ∈ B ∧ q x = true)) : A.find? p = B.find? q := by
  have hh : ∀ m, A.find? p = some m ↔ B.find? q = some m := by
    intro m
    rw [find_max hA, find_max hB]
    constructor
    · rintro ⟨h1, h2, h3⟩
      have h4 := (h m).mp ⟨h1, h2⟩
      exact ⟨h4.1, h4.2, fun x hx hq => by have h5 := (h x).mpr ⟨hx, hq⟩; exact h3 x h5.1 h5.2⟩
    · rintro ⟨h1, h2, h3⟩
      have h4 := (h m).mpr ⟨h1, h2⟩
      exact ⟨h4.1, h4.2, fun x hx hq => by have h5 := (h x).mp ⟨hx, hq⟩; exact h3 x h5.1 h5.2⟩
  cases hx : A.find? p with
  | some m => exact ((hh m).mp hx).symm
  | none =>
    cases hy : B.find? q with
    | none => rfl
    | some m =>
      have := (hh m).mpr hy
      rw [hx] at this
      cases this
/-- The meet: the program's and the document's. -/
theorem meet_eq (h : WF s) {i j : Nat} (hi : i < s.n) (hj : j < s.n) :
    (anc s (min i j)).find? (fun m => decide ((max i j : Nat) < s.beh m)) = (anc s i).find? (fun m => decide (m ∈ anc s j)) := by
  refine find_comm (anc_pw _) (anc_pw _) fun x => ?_
  simp only [decide_eq_true_eq]
  by_cases hij : i ≤ j
  · rw [Nat.min_eq_left hij, Nat.max_eq_right hij]
    constructor
    · rintro ⟨h1, h2⟩
      have hx := anc_lt s h1
      exact ⟨h1, (in_iff h hj (by omega)).mpr ⟨by omega, h2⟩⟩
    · rintro ⟨h1, h2⟩
      have hx := anc_lt s h1
      exact ⟨h1, ((in_iff h hj (by omega)).mp h2).2⟩
  · rw [Nat.min_eq_right (by omega), Nat.max_eq_left (by omega)]
    constructor
    · rintro ⟨h1, h2⟩
      have hx := anc_lt s h1
      exact ⟨(in_iff h hi (by omega)).mpr ⟨by omega, h2⟩, h1⟩
    · rintro ⟨h1, h2⟩
      have hx := anc_lt s h1
      exact ⟨h2, ((in_iff h hi (by omega)).mp h1).2⟩
/-- The states right in one, from a number on. -/
def inn (s : Sh) (i : Int) (k : Nat) : List Nat := (List.range' k (s.n - k)).filter (fun x => decide (s.par x = i))
theorem inn_cons {i : Int} {k : Nat} (hk : k < s.n) : inn s i k = if s.par k = i then k :: inn s i (k + 1) else inn s i (k + 1) := by
  unfold inn
  rw [show s.n - k = s.n - (k + 1) + 1 by omega, List.range'_succ, List.filter_cons]
  simp
theorem inn_end {i : Int} {k : Nat} (hk : s.n ≤ k) : inn s i k = [] := by
  unfold inn
  rw [show s.n - k = 0 by omega]
  rfl
theorem inn_skip {i : Int} : ∀ (d k m : Nat), m = k + d → (∀ x, k ≤ x → x < m → x < s.n → s.par x ≠ i) → inn s i k = inn s i m
  | 0, k, m, hm, _ => by rw [hm]; rfl
  | d + 1, k, m, hm, h => by
    by_cases hk : k < s.n
    · rw [inn_cons hk, if_neg (h k (Nat.le_refl _) (by omega) hk)]
      exact inn_skip d (k + 1) m (by omega) fun x h1 h2 h3 => h x (by omega) h2 h3
    · rw [inn_end (by omega), inn_end (by omega)]
/-- Behind a state right in i: the next one right in i, or i's end. -/
theorem next_in (h : WF s) {i : Int} {k : Nat} (hk : k < s.n) (hp : s.par k = i) {b : Nat} (hb : s.beh k = b) (hbn : b < s.n) (hin : i = -1 ∨ ∃ p : Nat, i = p ∧ p < s.n ∧ (b : Int) < s.beh p) : s.par b = i := by
  obtain ⟨b', hb', h1, h2, h3, h4⟩ := h.beh k hk
  have : b = b' := by omega
  subst this
  have hna := h4.resolve_left (by omega)
  rcases hin with rfl | ⟨p, rfl, hpn, hlt⟩
  · rcases ok_cases s (h.ok b hbn) with h5 | ⟨q, hq, hqb, h5⟩
    · exact h5.1
    · exfalso
      -- anc b = q :: anc q, q in stk b; k is the last of stk b, and q is in front of it or it is k
      have hk0 := anc_nil s hp
      have hsuf : anc s b <:+ stk s b := anc_stk s b
      obtain ⟨u, v, huv⟩ := List.append_of_mem h3
      have hv : v = [] := by
        have h6 : k :: v <:+ stk s b := ⟨u, by rw [huv]⟩
        rw [suf_tail s h6, hk0]
      subst hv
      obtain ⟨t, ht⟩ := hsuf
      rw [huv, h5] at ht
      have h7 : k ∈ q :: anc s q := by
        have h8 := congrArg List.getLast? ht
        rw [List.getLast?_append, List.getLast?_append] at h8
        have h9 : (q :: anc s q).getLast? = some k := by
          cases hq9 : (q :: anc s q).getLast? with
          | none => simp at hq9
          | some z => rw [hq9] at h8; simpa using h8
        exact List.mem_of_getLast? h9
      rw [← h5] at h7
      exact hna h7
  · have hpb : p ∈ anc s b := (in_iff h hbn hpn).mpr ⟨by
      rcases ok_cases s (h.ok k hk) with h5 | ⟨q, hq, hqk, _⟩
      · omega
      · omega, hlt⟩
    obtain ⟨u, v, huv⟩ := List.append_of_mem h3
    have hv : v = p :: anc s p := by
      have h6 : k :: v <:+ stk s b := ⟨u, by rw [huv]⟩
      rw [suf_tail s h6]
      rcases ok_cases s (h.ok k hk) with h5 | ⟨q, hq, hqk, h5⟩
      · omega
      · rw [h5, show q = p by omega]
    obtain ⟨t, ht⟩ := anc_stk s b
    rcases ok_cases s (h.ok b hbn) with h5 | ⟨q, hq, hqb, h5⟩
    · rw [h5.2] at hpb
      cases hpb
    · -- q :: anc q is a suffix of u ++ k :: p :: anc p that holds p and not k
      rw [h5] at ht hpb hna
      have hs1 : q :: anc s q <:+ stk s b := ⟨t, ht⟩
      have hs2 : k :: v <:+ stk s b := ⟨u, by rw [huv]⟩
      rcases List.suffix_or_suffix_of_suffix hs1 hs2 with h6 | h6
      · rcases List.suffix_cons_iff.mp h6 with h7 | h7
        · exact absurd (by rw [h7]; exact List.mem_cons_self ..) hna
        · rw [hv] at h7
          rcases List.suffix_cons_iff.mp h7 with h8 | h8
          · injection h8 with h9 h10
            omega
          · exfalso
            rcases List.mem_cons.mp hpb with h9 | h9
            · subst h9
              exact absurd (anc_lt s (h8.mem (List.mem_cons_self ..))) (Nat.lt_irrefl _)
            · exact absurd (anc_lt s (h8.mem (List.mem_cons_of_mem _ h9))) (Nat.lt_irrefl _)
      · exact absurd (h6.mem (List.mem_cons_self ..)) hna
/-- In between none is right in i. -/
theorem skip_in (h : WF s) {k x : Nat} (hk : k < s.n) (h1 : k < x) (hx : x < s.n) (h2 : (x : Int) < s.beh k) : s.par x ≠ s.par k := by
  have hm := (in_iff h hx hk).mpr ⟨h1, h2⟩
  rcases ok_cases s (h.ok x hx) with h5 | ⟨q, hq, hqx, h5⟩
  · rw [h5.2] at hm
    cases hm
  · intro he
    rw [h5] at hm
    have hkq : k ≤ q := by
      rcases List.mem_cons.mp hm with rfl | hm
      · exact Nat.le_refl _
      · exact Nat.le_of_lt (anc_lt s hm)
    rcases ok_cases s (h.ok k hk) with h6 | ⟨r, hr, hrk, _⟩ <;> omega
theorem inn_next (h : WF s) {i : Int} {k b : Nat} (hk : k < s.n) (hp : s.par k = i) (hb : s.beh k = b) : inn s i k = k :: inn s i b := by
  have hlt := beh_lt h hk
  rw [inn_cons hk, if_pos hp, inn_skip (b - (k + 1)) (k + 1) b (by omega) fun x h1 h2 h3 => hp ▸ skip_in h hk (by omega) h3 (by omega)]
/-- Behind i's end none is right in i. -/
theorem inn_stop (h : WF s) {p : Nat} (hp : p < s.n) {b : Nat} (hb : s.beh p = b) : inn s p b = [] := by
  have hlt := beh_lt h hp
  rw [inn_skip (s.n - b) b s.n (by omega), inn_end (Nat.le_refl _)]
  intro x h1 h2 h3 he
  rcases ok_cases s (h.ok x h3) with h5 | ⟨q, hq, hqx, h5⟩
  · omega
  · have : q = p := by omega
    subst this
    have := ((in_iff h h3 hp).mp (by rw [h5]; exact List.mem_cons_self ..)).2
    omega
theorem inn_zero (h : WF s) {p : Nat} (hp : p < s.n) : inn s p 0 = inn s p (p + 1) := by
  refine inn_skip (p + 1) 0 (p + 1) (by omega) fun x h1 h2 h3 he => ?_
  rcases ok_cases s (h.ok x h3) with h5 | ⟨q, hq, hqx, h5⟩ <;> omega
/-- The first one behind p is right in p, if p is no leaf. -/
theorem first_in (h : WF s) {p : Nat} (hp : p < s.n) (hb : (p : Int) + 1 < s.beh p) (hn : p + 1 < s.n) : s.par (p + 1) = p := by
  have hm := (in_iff h hn hp).mpr ⟨by omega, by omega⟩
  rcases ok_cases s (h.ok (p + 1) hn) with h5 | ⟨q, hq, hqx, h5⟩
  · rw [h5.2] at hm
    cases hm
  · rw [h5] at hm
    rcases List.mem_cons.mp hm with rfl | hm
    · omega
    · have := anc_lt s hm
      omega
theorem mem_inn {i : Int} {k x : Nat} : x ∈ inn s i k ↔ k ≤ x ∧ x < s.n ∧ s.par x = i := by
  unfold inn
  rw [List.mem_filter, List.mem_range'_1]
  simp only [decide_eq_true_eq]
  constructor
  · rintro ⟨h1, h2⟩
    exact ⟨h1.1, by omega, h2⟩
  · rintro ⟨h1, h2, h3⟩
    exact ⟨⟨h1, by omega⟩, h3⟩
end Go.Proofs.Ytjghlomkimoeoaa.Tr
