/- States that lie in one another: what the program reckons. -/
import Derived.Test.YtjghlomkimoeoaaTr2
namespace Go.Proofs.Ytjghlomkimoeoaa.Tr
set_option linter.unusedVariables false
variable (s : Sh)
/-- What is closed ahead of state i, whose parent is p; none: one of them ends elsewhere. -/
def pops (i : Nat) (p : Int) : List Nat → Option (List Nat)
  | [] => some []
  | x :: st => if (x : Int) = p then some (x :: st) else if s.beh x = i then pops i p st else none
/-- The states from i on, d of them. -/
def fgo : Nat → Nat → List Nat → Bool
  | 0, i, st => st.all fun x => decide (s.beh x = s.n)
  | d + 1, i, st => match pops s i (s.par i) st with
    | none => false
    | some st' => if (st' = [] ∧ s.par i ≠ -1) ∨ s.dep i ≠ st'.length ∨ s.leaf i ≠ decide (s.beh i = i + 1) then false else fgo d (i + 1) (i :: st')
def formedB : Bool := if 40 < s.n then false else fgo s s.n 0 []
theorem pops_some {i : Nat} {p : Int} : ∀ {st r : List Nat}, pops s i p st = some r → r = cut p st ∧ ∀ x ∈ st, x ∉ r → s.beh x = i
  | [], r, h => by
    cases h
    exact ⟨rfl, fun x hx => by cases hx⟩
  | x :: st, r, h => by
    unfold pops at h
    unfold cut
    by_cases hx : (x : Int) = p
    · rw [if_pos hx] at h ⊢
      cases h
      exact ⟨rfl, fun y hy hn => absurd hy hn⟩
    · rw [if_neg hx] at h ⊢
      by_cases hb : s.beh x = i
      · rw [if_pos hb] at h
        obtain ⟨h1, h2⟩ := pops_some h
        refine ⟨h1, fun y hy hn => ?_⟩
        rcases List.mem_cons.mp hy with rfl | hy
        · exact hb
        · exact h2 y hy hn
      · rw [if_neg hb] at h
        cases h
theorem pops_of {i : Nat} {p : Int} : ∀ {st : List Nat}, st.Nodup → (∀ x ∈ st, x ∉ cut p st → s.beh x = i) → pops s i p st = some (cut p st)
  | [], _, _ => rfl
  | x :: st, hn, h => by
    unfold pops cut
    unfold cut at h
    by_cases hx : (x : Int) = p
    · rw [if_pos hx, if_pos hx]
    · rw [if_neg hx] at h
      obtain ⟨hn1, hn2⟩ := List.nodup_cons.mp hn
      have hb : s.beh x = i := h x (List.mem_cons_self ..) fun hm => hn1 ((cut_suffix p st).mem hm)
      rw [if_neg hx, if_neg hx, if_pos hb]
      exact pops_of hn2 fun y hy hm => h y (List.mem_cons_of_mem _ hy) hm
theorem fgo_iff : ∀ (d i : Nat), i + d = s.n → (fgo s d i (stk s i) = true ↔
    (∀ j, i ≤ j → j < s.n → (∀ x ∈ stk s j, x ∉ anc s j → s.beh x = j) ∧ (anc s j = [] → s.par j = -1) ∧ s.dep j = (anc s j).length ∧ s.leaf j = decide (s.beh j = j + 1)) ∧ ∀ x ∈ stk s s.n, s.beh x = s.n)
  | 0, i, hd => by
    obtain rfl : i = s.n := by omega
    unfold fgo
    rw [List.all_eq_true]
    simp only [decide_eq_true_eq]
    exact ⟨fun h => ⟨fun j h1 h2 => by omega, h⟩, fun h => h.2⟩
  | d + 1, i, hd => by
    have hnd : (stk s i).Nodup := (stk_pw (s := s) i).imp (fun h => Nat.ne_of_gt h)
    unfold fgo
    constructor
    · intro h
      cases hp : pops s i (s.par i) (stk s i) with
      | none => rw [hp] at h; cases h
      | some r =>
        rw [hp] at h
        obtain ⟨rfl, h2⟩ := pops_some s hp
        simp only at h
        split at h
        · cases h
        · rename_i hc
          have h3 := (fgo_iff d (i + 1) (by omega)).mp h
          refine ⟨fun j h4 h5 => ?_, h3.2⟩
          by_cases hj : j = i
          · subst hj
            refine ⟨h2, fun h6 => ?_, ?_, ?_⟩
            · exact Decidable.not_not.mp fun h7 => hc (.inl ⟨h6, h7⟩)
            · exact Decidable.not_not.mp fun h7 => hc (.inr (.inl h7))
            · exact Decidable.not_not.mp fun h7 => hc (.inr (.inr h7))
          · exact h3.1 j (by omega) h5
    · rintro ⟨h1, h2⟩
      obtain ⟨k1, k2, k3, k4⟩ := h1 i (Nat.le_refl _) (by omega)
      rw [pops_of s hnd k1]
      simp only
      rw [if_neg]
      · exact (fgo_iff d (i + 1) (by omega)).mpr ⟨fun j h4 h5 => h1 j (by omega) h5, h2⟩
      · rintro (⟨h6, h7⟩ | h7 | h7)
        · exact h7 (k2 h6)
        · exact h7 k3
        · exact h7 k4
theorem formedB_iff : formedB s = true ↔ WF s := by
  rw [wf_iff]
  unfold formedB
  constructor
  · intro h
    split at h
    · cases h
    · rename_i hn
      have h1 := (fgo_iff s s.n 0 (by omega)).mp h
      exact ⟨by omega, fun i hi => (h1.1 i (Nat.zero_le _) hi).1, fun i hi => (h1.1 i (Nat.zero_le _) hi).2.1, fun i hi => (h1.1 i (Nat.zero_le _) hi).2.2.1, fun i hi => (h1.1 i (Nat.zero_le _) hi).2.2.2, h1.2⟩
  · intro h
    rw [if_neg (by have := h.le; omega)]
    exact (fgo_iff s s.n 0 (by omega)).mpr ⟨fun j _ hj => ⟨h.pop j hj, h.one j hj, h.dep j hj, h.leaf j hj⟩, h.last⟩
end Go.Proofs.Ytjghlomkimoeoaa.Tr
