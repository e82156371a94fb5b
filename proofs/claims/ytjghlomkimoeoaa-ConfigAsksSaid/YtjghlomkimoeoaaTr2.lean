/- States that lie in one another: what is counted, and the way up. -/
import Derived.Test.YtjghlomkimoeoaaTr
namespace Go.Proofs.Ytjghlomkimoeoaa.Tr
set_option linter.unusedVariables false
variable {s : Sh}
theorem inn_nodup (i : Int) (k : Nat) : (inn s i k).Nodup := ((List.pairwise_lt_range' (s := k) (n := s.n - k)).imp (fun h => Nat.ne_of_lt h)).filter _
theorem up_nodup {as : List Nat} (h : as.Pairwise (· < ·)) : as.Nodup := h.imp (fun h => Nat.ne_of_lt h)
/-- How many right in j are active. -/
theorem count_inn {as : List Nat} (hnd : as.Pairwise (· < ·)) (hin : ∀ a ∈ as, a < s.n) (j : Int) : (as.filter (fun a => decide (s.par a = j))).length = ((inn s j 0).filter (fun k => decide (k ∈ as))).length := by
  refine List.Perm.length_eq ((List.perm_ext_iff_of_nodup ((up_nodup hnd).filter _) ((inn_nodup j 0).filter _)).mpr fun x => ?_)
  rw [List.mem_filter, List.mem_filter, mem_inn]
  simp only [decide_eq_true_eq]
  constructor
  · rintro ⟨h1, h2⟩
    exact ⟨⟨Nat.zero_le _, hin x h1, h2⟩, h1⟩
  · rintro ⟨⟨_, _, h2⟩, h1⟩
    exact ⟨h1, h2⟩
theorem leaf_inn (h : WF s) {p : Nat} (hp : p < s.n) (hl : s.leaf p = true) : inn s p 0 = [] := by
  rw [inn_zero h hp]
  refine inn_stop h hp ?_
  have := h.leaf p hp
  rw [hl] at this
  simpa using of_decide_eq_true this.symm
theorem up_len {n : Nat} : ∀ (as : List Nat) (k : Nat), as.Pairwise (· < ·) → (∀ a ∈ as, k ≤ a ∧ a < n) → as.length ≤ n - k
  | [], k, _, _ => Nat.zero_le _
  | a :: as, k, h, hin => by
    obtain ⟨h1, h2⟩ := List.pairwise_cons.mp h
    have := up_len as (a + 1) h2 fun x hx => ⟨h1 x hx, (hin x (List.mem_cons_of_mem _ hx)).2⟩
    have h3 := hin a (List.mem_cons_self ..)
    rw [List.length_cons]
    omega
theorem chain_two : ∀ {i k k' : Nat}, (k = i ∨ k ∈ anc s i) → (k' = i ∨ k' ∈ anc s i) → k = k' ∨ k' ∈ anc s k ∨ k ∈ anc s k' := by
  intro i
  induction i using Nat.strongRecOn with
  | _ i ih =>
    intro k k' hk hk'
    rcases hk with rfl | hk
    · rcases hk' with rfl | hk'
      · exact .inl rfl
      · exact .inr (.inl hk')
    · rcases hk' with rfl | hk'
      · exact .inr (.inr hk)
      · rcases anc_cases s i with h | ⟨p, _, hp, h⟩
        · rw [h] at hk
          cases hk
        · rw [h] at hk hk'
          exact ih p hp (List.mem_cons.mp hk) (List.mem_cons.mp hk')
theorem par_lt (h : WF s) {k : Nat} (hk : k < s.n) : s.par k < k ∧ -1 ≤ s.par k := by
  rcases ok_cases s (h.ok k hk) with h1 | ⟨q, hq, hqk, _⟩ <;> omega
theorem not_above (h : WF s) {k k' : Nat} (hk : k < s.n) (hm : k' ∈ anc s k) : s.par k ≠ s.par k' := by
  have hlt := anc_lt s hm
  have h1 := par_lt h (k := k') (by omega)
  rcases ok_cases s (h.ok k hk) with h2 | ⟨q, hq, hqk, h2⟩
  · rw [h2.2] at hm
    cases hm
  · rw [h2] at hm
    rcases List.mem_cons.mp hm with rfl | hm
    · omega
    · have := anc_lt s hm
      omega
theorem top_one (h : WF s) {i k k' : Nat} (hi : i < s.n) (hk : k = i ∨ k ∈ anc s i) (hk' : k' = i ∨ k' ∈ anc s i) (hp : s.par k = s.par k') : k = k' := by
  have l1 : k < s.n := by
    rcases hk with rfl | hk
    · exact hi
    · have := anc_lt s hk
      omega
  have l2 : k' < s.n := by
    rcases hk' with rfl | hk'
    · exact hi
    · have := anc_lt s hk'
      omega
  rcases chain_two hk hk' with h1 | h1 | h1
  · exact h1
  · exact absurd hp (not_above h l1 h1)
  · exact absurd hp.symm (not_above h l2 h1)
/-- The one on the way up that is right in the scope. -/
theorem top_some : ∀ {i : Nat} {sc : Int}, WF s → i < s.n → (sc = -1 ∨ ∃ p : Nat, sc = p ∧ p ∈ anc s i) → ∃ k, (k = i ∨ k ∈ anc s i) ∧ s.par k = sc := by
  intro i
  induction i using Nat.strongRecOn with
  | _ i ih =>
    intro sc h hi hsc
    by_cases hp : s.par i = sc
    · exact ⟨i, .inl rfl, hp⟩
    · rcases ok_cases s (h.ok i hi) with h1 | ⟨p, hpp, hpi, h1⟩
      · exfalso
        rcases hsc with rfl | ⟨q, rfl, hq⟩
        · exact hp h1.1
        · rw [h1.2] at hq
          cases hq
      · have hsc' : sc = -1 ∨ ∃ q : Nat, sc = q ∧ q ∈ anc s p := by
          rcases hsc with rfl | ⟨q, rfl, hq⟩
          · exact .inl rfl
          · rw [h1] at hq
            rcases List.mem_cons.mp hq with rfl | hq
            · exact absurd hpp.symm hp
            · exact .inr ⟨q, rfl, hq⟩
        obtain ⟨k, hk, hkp⟩ := ih p hpi h (by omega) hsc'
        refine ⟨k, .inr ?_, hkp⟩
        rw [h1]
        exact List.mem_cons.mpr hk
theorem top_find (h : WF s) {i k : Nat} {sc : Int} (hi : i < s.n) (hk : k = i ∨ k ∈ anc s i) (hp : s.par k = sc) : (inn s sc 0).find? (fun x => decide (x ≤ i ∧ (i : Int) < s.beh x)) = some k := by
  have hkn : k < s.n := by
    rcases hk with rfl | hk
    · exact hi
    · have := anc_lt s hk
      omega
  have hu : ∀ x ∈ inn s sc 0, (x ≤ i ∧ (i : Int) < s.beh x) → x = k := by
    intro x hx hw
    obtain ⟨_, hxn, hxp⟩ := mem_inn.mp hx
    refine top_one h hi ?_ hk (hxp.trans hp.symm)
    rcases (within_iff h hi hxn).mp hw with h1 | h1
    · exact .inl h1.symm
    · exact .inr h1
  have hw : k ≤ i ∧ (i : Int) < s.beh k := (within_iff h hi hkn).mpr (hk.imp Eq.symm id)
  cases hf : (inn s sc 0).find? (fun x => decide (x ≤ i ∧ (i : Int) < s.beh x)) with
  | none =>
    have := List.find?_eq_none.mp hf k (mem_inn.mpr ⟨Nat.zero_le _, hkn, hp⟩)
    exact absurd (decide_eq_true hw) this
  | some x =>
    have h1 := List.find?_some hf
    rw [hu x (List.mem_of_find?_eq_some hf) (of_decide_eq_true h1)]
end Go.Proofs.Ytjghlomkimoeoaa.Tr
