/- Legal, of both. -/
import Derived.Test.YtjghlomkimoeoaaTrA
namespace Go.Proofs.Ytjghlomkimoeoaa.Tr
open Go.RowKit Go.Proofs.YtjghlomkimoeoaaW.PrintWords Go.Proofs.YtjghlomkimoeoaaW.PrintLast Go.Proofs.YtjghlomkimoeoaaW.PrintMore Go.Proofs.Ytjghlomkimoeoaa.PConfigAsks
set_option linter.unusedVariables false
set_option linter.unusedSimpArgs false
variable {s : Sh}
/-- What is looked at of the number at j. -/
def chkA (s : Sh) (av : List Int) (j : Nat) : Prop := 0 ≤ rd av (j : Int) ∧ rd av (j : Int) < (s.n : Int) ∧ (0 < j → rd av ((j : Int) - 1) < rd av (j : Int)) ∧ (0 ≤ s.par (rd av (j : Int)).toNat → s.par (rd av (j : Int)).toNat ∈ av)
def okA (s : Sh) (av : List Int) : Prop := ∀ j, j < av.length → chkA s av j
/-- How many right in i are active. -/
def cn (s : Sh) (av : List Int) (i : Int) : Nat := ((inn s i 0).filter fun (k : Nat) => decide ((k : Int) ∈ av)).length
def LP (s : Sh) (av : List Int) : Prop := WF s ∧ av ≠ [] ∧ okA s av ∧ cn s av (-1) = 1 ∧ ∀ i : Nat, i < s.n → s.leaf i = false → (i : Int) ∈ av → cn s av i = if s.all i = true then (inn s i 0).length else 1
theorem okA_up {av : List Int} (h : okA s av) : ∃ P : List Nat, av = up P ∧ P.Pairwise (· < ·) ∧ ∀ x ∈ P, x < s.n := by
  refine ⟨av.map Int.toNat, ?_, ?_, ?_⟩
  · unfold up
    rw [List.map_map]
    have : ∀ x ∈ av, ((fun (x : Nat) => (x : Int)) ∘ Int.toNat) x = x := fun x hx => by
      obtain ⟨j, hj, rfl⟩ := List.getElem_of_mem hx
      have h1 := (h j hj).1
      rw [rd_get av j hj] at h1
      exact Int.toNat_of_nonneg h1
    exact ((List.map_congr_left (g := id) this).trans (List.map_id av)).symm
  · rw [List.pairwise_map]
    have hstep : ∀ j, j + 1 < av.length → rd av (j : Int) < rd av ((j + 1 : Nat) : Int) := fun j hj => by
      have := (h (j + 1) hj).2.2.1 (by omega)
      rwa [show ((j + 1 : Nat) : Int) - 1 = (j : Int) by omega] at this
    have hall : ∀ d j, j + d + 1 < av.length → rd av (j : Int) < rd av ((j + d + 1 : Nat) : Int) := by
      intro d
      induction d with
      | zero => intro j hj; exact hstep j hj
      | succ d ih =>
        intro j hj
        have h1 := ih j (by omega)
        have h2 := hstep (j + d + 1) hj
        rw [show j + (d + 1) + 1 = j + d + 1 + 1 by omega]
        omega
    rw [List.pairwise_iff_getElem]
    intro i j hi hj hij
    have h1 := hall (j - i - 1) i (by omega)
    rw [show i + (j - i - 1) + 1 = j by omega, rd_get av i hi, rd_get av j hj] at h1
    have h2 := (h i hi).1
    rw [rd_get av i hi] at h2
    omega
  · intro x hx
    obtain ⟨y, hy, rfl⟩ := List.mem_map.mp hx
    obtain ⟨j, hj, rfl⟩ := List.getElem_of_mem hy
    have h1 := h j hj
    have h2 := h1.1
    have h3 := h1.2.1
    rw [rd_get av j hj] at h2 h3
    omega
/-- How many of the first ones have the parent q - 1. -/
def ct (s : Sh) (av : List Int) (q : Int) : Nat := (av.filter fun a => decide (s.par a.toNat + 1 = q)).length
theorem up_mem {P : List Nat} {x : Nat} : (x : Int) ∈ up P ↔ x ∈ P := by
  unfold up
  rw [List.mem_map]
  exact ⟨fun ⟨y, hy, e⟩ => by rw [show x = y by omega]; exact hy, fun h => ⟨x, h, rfl⟩⟩
theorem ct_cn {av : List Int} (h : okA s av) (i : Int) : ct s av (i + 1) = cn s av i := by
  obtain ⟨P, rfl, hP, hn⟩ := okA_up h
  have h1 := count_inn hP hn i
  unfold ct cn
  have e1 : ((up P).filter fun a => decide (s.par a.toNat + 1 = i + 1)).length = (P.filter fun a => decide (s.par a = i)).length := by
    unfold up
    rw [List.filter_map, List.length_map]
    congr 1
    refine List.filter_congr fun x _ => ?_
    exact decide_congr' ⟨fun e => by simp only [Int.toNat_natCast] at e; omega, fun e => by simp only [Int.toNat_natCast]; omega⟩
  have e2 : ((inn s i 0).filter fun (k : Nat) => decide ((k : Int) ∈ up P)) = (inn s i 0).filter fun (k : Nat) => decide (k ∈ P) := List.filter_congr fun x _ => decide_congr' up_mem
  rw [e1, e2]
  exact h1
theorem cn_leaf (h : WF s) (av : List Int) {i : Nat} (hi : i < s.n) (hl : s.leaf i = true) : cn s av i = 0 := by
  unfold cn
  rw [leaf_inn h hi hl]
  rfl
theorem okA_len {av : List Int} (h : okA s av) : av.length ≤ s.n := by
  obtain ⟨P, rfl, hP, hn⟩ := okA_up h
  rw [up_len']
  have := up_len P 0 hP fun x hx => ⟨Nat.zero_le _, hn x hx⟩
  omega
theorem rd_set (M : List Int) (p q : Nat) (v : Int) (hp : p < M.length) : rd (M.set p v) (q : Int) = if p = q then v else rd M (q : Int) := by
  unfold rd
  rw [Int.toNat_natCast, List.getD_eq_getElem?_getD, List.getD_eq_getElem?_getD, List.getElem?_set]
  by_cases h : p = q
  · rw [if_pos h, if_pos h, if_pos (by omega)]
    rfl
  · rw [if_neg h, if_neg h]
theorem ct_snoc (av : List Int) (j : Nat) (hj : j < av.length) (q : Int) : ct s (av.take (j + 1)) q = ct s (av.take j) q + if s.par av[j].toNat + 1 = q then 1 else 0 := by
  unfold ct
  rw [List.take_succ_eq_append_getElem hj, List.filter_append, List.length_append]
  congr 1
  by_cases h : s.par av[j].toNat + 1 = q
  · rw [if_pos h, List.filter_cons_of_pos (by simp [h])]
    rfl
  · rw [if_neg h, List.filter_cons_of_neg (by simp [h])]
    rfl
theorem legal_l0 (l : List S86) (h : WF (sh l)) (av : List Int) (has : av.length ≤ 1000) : ∀ (d j : Nat) (M : List Int), j + d = av.length → M.length = l.length + 1 → (∀ q : Nat, q ≤ l.length → rd M (q : Int) = (ct (sh l) (av.take j) q : Int)) →
    (¬ (∀ i, j ≤ i → i < av.length → chkA (sh l) av i) → Ev (fun k => config_Legal.l0 k l av M av (av.length : Int) (j : Int)) false) ∧
    ((∀ i, j ≤ i → i < av.length → chkA (sh l) av i) → ∃ M' : List Int, M'.length = l.length + 1 ∧ (∀ q : Nat, q ≤ l.length → rd M' (q : Int) = (ct (sh l) av q : Int)) ∧
      ∀ r, Ev (fun k => config_Legal.l1 k l M' av (av.length : Int) 0) r → Ev (fun k => config_Legal.l0 k l av M av (av.length : Int) (j : Int)) r)
  | 0, j, M, hd, hM, hc => by
    refine ⟨fun hn => absurd (fun i h1 h2 => by omega) hn, fun _ => ⟨M, hM, fun q hq => by rw [hc q hq, List.take_of_length_le (by omega)], fun r ⟨K, hK⟩ => ⟨K + 1, fun k hk => ?_⟩⟩⟩
    obtain ⟨k, rfl⟩ : ∃ m, k = m + 1 := ⟨k - 1, by omega⟩
    dsimp only
    rw [config_Legal.l0, if_neg (by omega)]
    exact hK k (by omega)
  | d + 1, j, M, hd, hM, hc => by
    have hj : j < av.length := by omega
    have hn : (sh l).n = l.length := rfl
    have h40 : l.length ≤ 40 := h.le
    have hpred : wrap64 ((j : Int) - 1) = (j : Int) - 1 := wpred' (by omega)
    have hra := rd_get av j hj
    -- the head: what stands ahead of j2
    have hj2 : ∀ b r, Ev (fun k => config_Legal.j2 k l av M (rd av (j : Int)) av (av.length : Int) (j : Int) b) r →
        (b = true ↔ ¬ (0 ≤ rd av (j : Int) ∧ rd av (j : Int) < (l.length : Int) ∧ (0 < j → rd av ((j : Int) - 1) < rd av (j : Int)))) → Ev (fun k => config_Legal.l0 k l av M av (av.length : Int) (j : Int)) r := by
      rintro b r ⟨K, hK⟩ hb
      dsimp only at hK
      refine ⟨K + 1, fun k hk => ?_⟩
      obtain ⟨k, rfl⟩ : ∃ m, k = m + 1 := ⟨k - 1, by omega⟩
      dsimp only
      rw [config_Legal.l0, if_pos (by omega), if_pos (by omega), if_pos (by omega)]
      have hKk := hK k (by omega)
      by_cases c1 : rd av (j : Int) < 0
      · rw [if_pos c1]
        obtain rfl : b = true := hb.mpr (by omega)
        exact hKk
      · rw [if_neg c1]
        by_cases c2 : rd av (j : Int) ≥ (l.length : Int)
        · rw [if_pos c2]
          obtain rfl : b = true := hb.mpr (by omega)
          exact hKk
        · rw [if_neg c2]
          by_cases c3 : (j : Int) > 0
          · rw [if_pos c3, hpred, if_pos (by omega), if_pos (by omega)]
            by_cases c4 : rd av ((j : Int) - 1) ≥ rd av (j : Int)
            · obtain rfl : b = true := hb.mpr (by omega)
              rw [decide_eq_true c4]
              exact hKk
            · have : b = false := by
                cases b with
                | false => rfl
                | true => exact absurd (⟨by omega, by omega, fun _ => by omega⟩) (hb.mp rfl)
              subst this
              rw [decide_eq_false c4]
              exact hKk
          · rw [if_neg c3]
            have : b = false := by
              cases b with
              | false => rfl
              | true => exact absurd (⟨by omega, by omega, fun _ => by omega⟩) (hb.mp rfl)
            subst this
            exact hKk
    by_cases hA : 0 ≤ rd av (j : Int) ∧ rd av (j : Int) < (l.length : Int) ∧ (0 < j → rd av ((j : Int) - 1) < rd av (j : Int))
    · have hj2' := fun r hr => hj2 false r hr ⟨fun e => (by cases e), fun e => absurd hA e⟩
      obtain ⟨a, ha⟩ : ∃ a : Nat, rd av (j : Int) = a := ⟨(rd av (j : Int)).toNat, by omega⟩
      have han : a < (sh l).n := by omega
      have hpl := par_lt h han
      have hpar : (rd_T86 l (a : Int)).f1 = (sh l).par a := rfl
      obtain ⟨q, hq⟩ : ∃ q : Nat, (sh l).par a + 1 = q := ⟨((sh l).par a + 1).toNat, by omega⟩
      have hqn : q ≤ l.length := by omega
      have hwq : wrap64 ((sh l).par a + 1) = (q : Int) := by unfold wrap64; omega
      have hrq := hc q hqn
      have hct : ct (sh l) (av.take j) (q : Int) ≤ 1000 := by
        unfold ct
        have h1 := List.length_filter_le (fun a => decide ((sh l).par a.toNat + 1 = (q : Int))) (av.take j)
        rw [List.length_take] at h1
        omega
      have hwc : wrap64 (rd M (q : Int) + 1) = rd M (q : Int) + 1 := by rw [hrq]; unfold wrap64; omega
      have hMs : ∀ q' : Nat, q' ≤ l.length → rd (M.set q (rd M (q : Int) + 1)) (q' : Int) = (ct (sh l) (av.take (j + 1)) q' : Int) := fun q' hq' => by
        have e : ct (sh l) (av.take (j + 1)) (q' : Int) = ct (sh l) (av.take j) (q' : Int) + if (sh l).par a + 1 = (q' : Int) then 1 else 0 := by
          have := ct_snoc (s := sh l) av j hj (q' : Int)
          rwa [← hra, ha, Int.toNat_natCast] at this
        rw [rd_set M q q' _ (by omega), e, hq]
        by_cases hqq : q = q'
        · subst hqq
          rw [if_pos rfl, if_pos rfl, hrq]
          omega
        · rw [if_neg hqq, if_neg (by omega), hc q' hq']
          omega
      obtain ⟨n1, n2⟩ := legal_l0 l h av has d (j + 1) (M.set q (rd M (q : Int) + 1)) (by omega) (by rw [List.length_set]; exact hM) hMs
      -- the rest of the round, if the parent is active, or there is none
      have hgo : (0 ≤ (sh l).par a → (sh l).par a ∈ av) → ∀ r, Ev (fun k => config_Legal.l0 k l av (M.set q (rd M (q : Int) + 1)) av (av.length : Int) ((j + 1 : Nat) : Int)) r → Ev (fun k => config_Legal.l0 k l av M av (av.length : Int) (j : Int)) r := by
        rintro hin r ⟨K, hK⟩
        dsimp only at hK
        obtain ⟨K1, hC⟩ := Contains_ev av ((sh l).par a) has
        dsimp only at hC
        refine hj2' r ⟨K + K1 + 1, fun k hk => ?_⟩
        obtain ⟨k, rfl⟩ : ∃ m, k = m + 1 := ⟨k - 1, by omega⟩
        dsimp only
        rw [ha, config_Legal.j2, if_neg (by decide), if_pos (by omega), if_pos (by omega), hpar, hwq, hwc]
        by_cases c5 : (sh l).par a ≥ 0
        · rw [if_pos c5, hC k (by omega), Option.bind_some, decide_eq_true (hin c5), if_pos rfl, if_pos (by omega), if_pos (by omega), Int.toNat_natCast, wsucc (by omega)]
          exact hK k (by omega)
        · rw [if_neg c5, if_pos (by omega), if_pos (by omega), Int.toNat_natCast, wsucc (by omega)]
          exact hK k (by omega)
      have hchk : chkA (sh l) av j ↔ (0 ≤ (sh l).par a → (sh l).par a ∈ av) := by
        unfold chkA
        rw [ha, Int.toNat_natCast]
        constructor
        · intro e
          exact e.2.2.2
        · intro e
          rw [ha] at hA
          exact ⟨hA.1, hA.2.1, hA.2.2, e⟩
      constructor
      · intro hno
        by_cases hin : 0 ≤ (sh l).par a → (sh l).par a ∈ av
        · refine hgo hin false (n1 fun hall => hno fun i h1 h2 => ?_)
          by_cases hij : i = j
          · subst hij
            exact hchk.mpr hin
          · exact hall i (by omega) h2
        · obtain ⟨K1, hC⟩ := Contains_ev av ((sh l).par a) has
          dsimp only at hC
          have hp0 : (sh l).par a ≥ 0 := Decidable.byContradiction fun e => hin fun e2 => absurd e2 e
          have hpn : (sh l).par a ∉ av := fun e => hin fun _ => e
          refine hj2' false ⟨K1 + 1, fun k hk => ?_⟩
          obtain ⟨k, rfl⟩ : ∃ m, k = m + 1 := ⟨k - 1, by omega⟩
          dsimp only
          rw [ha, config_Legal.j2, if_neg (by decide), if_pos (by omega), if_pos (by omega), hpar, if_pos hp0, hC k (by omega), Option.bind_some, decide_eq_false hpn, if_neg (by decide)]
      · intro hyes
        obtain ⟨M', m1, m2, m3⟩ := n2 fun i h1 h2 => hyes i (by omega) h2
        exact ⟨M', m1, m2, fun r hr => hgo (hchk.mp (hyes j (Nat.le_refl _) hj)) r (m3 r hr)⟩
    · refine ⟨fun _ => hj2 true false ⟨1, fun k hk => ?_⟩ ⟨fun _ => hA, fun _ => rfl⟩, fun hyes => absurd ?_ hA⟩
      · obtain ⟨k, rfl⟩ : ∃ m, k = m + 1 := ⟨k - 1, by omega⟩
        dsimp only
        rw [config_Legal.j2, if_pos rfl]
      · have := hyes j (Nat.le_refl _) hj
        exact ⟨this.1, this.2.1, this.2.2.1⟩
end Go.Proofs.Ytjghlomkimoeoaa.Tr
