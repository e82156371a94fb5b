/- Legal, of both: what both answer. -/
import Derived.Test.YtjghlomkimoeoaaTrG
namespace Go.Proofs.Ytjghlomkimoeoaa.Tr
open Go.RowKit Go.Proofs.YtjghlomkimoeoaaW.PrintWords Go.Proofs.YtjghlomkimoeoaaW.PrintLast Go.Proofs.YtjghlomkimoeoaaW.PrintMore Go.Proofs.Ytjghlomkimoeoaa.PConfigAsks
set_option linter.unusedVariables false
set_option linter.unusedSimpArgs false
variable {s : Sh}
def wc (s : Sh) (M : List Int) (a : Int) : Prop := if s.leaf a.toNat = true then rd M (a + 1) = 0 else if s.all a.toNat = true then rd M (a + 1) = ((inn s a 0).length : Int) else rd M (a + 1) = 1
theorem legal_l1 (l : List S86) (h : WF (sh l)) (av M : List Int) (has : av.length ≤ 1000) (hM : M.length = l.length + 1) (hok : okA (sh l) av) : ∀ d j : Nat, j + d = av.length →
    ∃ r, Ev (fun k => config_Legal.l1 k l M av (av.length : Int) (j : Int)) r ∧ (r = true ↔ (∀ i, j ≤ i → i < av.length → wc (sh l) M (rd av (i : Int))) ∧ rd M 0 = 1)
  | 0, j, hd => by
    refine ⟨rd M 0 == 1, ⟨1, fun k hk => ?_⟩, ?_⟩
    · obtain ⟨k, rfl⟩ : ∃ m, k = m + 1 := ⟨k - 1, by omega⟩
      dsimp only
      rw [config_Legal.l1, if_neg (by omega), if_pos (by omega)]
    · rw [beq_iff_eq]
      exact ⟨fun e => ⟨fun i h1 h2 => by omega, e⟩, fun e => e.2⟩
  | d + 1, j, hd => by
    have hj : j < av.length := by omega
    have h40 : l.length ≤ 40 := h.le
    have hn : (sh l).n = l.length := rfl
    have hf := (formedB_iff (sh l)).mpr h
    have hA := hok j hj
    obtain ⟨r, ⟨K, hK⟩, hr⟩ := legal_l1 l h av M has hM hok d (j + 1) (by omega)
    dsimp only at hK
    obtain ⟨a, ha⟩ : ∃ a : Nat, rd av (j : Int) = a := ⟨(rd av (j : Int)).toNat, by have := hA.1; omega⟩
    have han : a < l.length := by have := hA.2.1; omega
    obtain ⟨K1, hI⟩ := Inner_ev l (a : Int)
    dsimp only at hI
    rw [if_pos ⟨hf, decide_eq_true (.inr (by rw [hn]; omega))⟩] at hI
    have hcond : ∀ c : Bool, (c = true ↔ wc (sh l) M (rd av (j : Int))) → ((c && r) = true ↔ (∀ i, j ≤ i → i < av.length → wc (sh l) M (rd av (i : Int))) ∧ rd M 0 = 1) := by
      intro c hc
      rw [Bool.and_eq_true, hc, hr]
      constructor
      · rintro ⟨h1, h2, h3⟩
        refine ⟨fun i h4 h5 => ?_, h3⟩
        by_cases hij : i = j
        · subst hij
          exact h1
        · exact h2 i (by omega) h5
      · rintro ⟨h1, h2⟩
        exact ⟨h1 j (Nat.le_refl _) hj, fun i h3 h4 => h1 i (by omega) h4, h2⟩
    have hlf : (sh l).leaf a = (rd_T86 l (a : Int)).f6 := rfl
    have hal : (sh l).all a = (rd_T86 l (a : Int)).f4 := rfl
    have hw : wc (sh l) M (rd av (j : Int)) ↔ (if (rd_T86 l (a : Int)).f6 = true then rd M ((a + 1 : Nat) : Int) = 0 else if (rd_T86 l (a : Int)).f4 = true then rd M ((a + 1 : Nat) : Int) = ((up (inn (sh l) a 0)).length : Int) else rd M ((a + 1 : Nat) : Int) = 1) := by
      unfold wc
      rw [ha, Int.toNat_natCast, hlf, hal, up_len', show ((a + 1 : Nat) : Int) = (a : Int) + 1 by omega]
    by_cases c1 : (rd_T86 l (a : Int)).f6 = true
    · rw [if_pos c1] at hw
      refine ⟨decide (rd M ((a + 1 : Nat) : Int) = 0) && r, ⟨K + 1, fun k hk => ?_⟩, hcond _ (by rw [decide_eq_true_eq]; exact hw.symm)⟩
      obtain ⟨k, rfl⟩ : ∃ m, k = m + 1 := ⟨k - 1, by omega⟩
      dsimp only
      rw [config_Legal.l1, if_pos (by omega), if_pos (by omega), if_pos (by omega), ha, if_pos (by omega), if_pos (by omega), if_pos c1, wsucc (by omega), if_pos (by omega), if_pos (by omega)]
      by_cases c2 : rd M ((a + 1 : Nat) : Int) = 0
      · rw [if_pos c2, decide_eq_true c2, Bool.true_and, wsucc (by omega)]
        exact hK k (by omega)
      · rw [if_neg c2, decide_eq_false c2, Bool.false_and]
    · rw [if_neg c1] at hw
      by_cases c3 : (rd_T86 l (a : Int)).f4 = true
      · rw [if_pos c3] at hw
        refine ⟨decide (rd M ((a + 1 : Nat) : Int) = ((up (inn (sh l) a 0)).length : Int)) && r, ⟨K + K1 + 1, fun k hk => ?_⟩, hcond _ (by rw [decide_eq_true_eq]; exact hw.symm)⟩
        obtain ⟨k, rfl⟩ : ∃ m, k = m + 1 := ⟨k - 1, by omega⟩
        dsimp only
        rw [config_Legal.l1, if_pos (by omega), if_pos (by omega), if_pos (by omega), ha, if_pos (by omega), if_pos (by omega), if_neg c1, if_pos c3, hI k (by omega), Option.bind_some, wsucc (by omega), if_pos (by omega), if_pos (by omega)]
        by_cases c2 : rd M ((a + 1 : Nat) : Int) = ((up (inn (sh l) a 0)).length : Int)
        · rw [if_pos c2, decide_eq_true c2, Bool.true_and, wsucc (by omega)]
          exact hK k (by omega)
        · rw [if_neg c2, decide_eq_false c2, Bool.false_and]
      · rw [if_neg c3] at hw
        refine ⟨decide (rd M ((a + 1 : Nat) : Int) = 1) && r, ⟨K + 1, fun k hk => ?_⟩, hcond _ (by rw [decide_eq_true_eq]; exact hw.symm)⟩
        obtain ⟨k, rfl⟩ : ∃ m, k = m + 1 := ⟨k - 1, by omega⟩
        dsimp only
        rw [config_Legal.l1, if_pos (by omega), if_pos (by omega), if_pos (by omega), ha, if_pos (by omega), if_pos (by omega), if_neg c1, if_neg c3, wsucc (by omega), if_pos (by omega), if_pos (by omega)]
        by_cases c2 : rd M ((a + 1 : Nat) : Int) = 1
        · rw [if_pos c2, decide_eq_true c2, Bool.true_and, wsucc (by omega)]
          exact hK k (by omega)
        · rw [if_neg c2, decide_eq_false c2, Bool.false_and]
theorem rd_rep (n q : Nat) (h : q < n) : rd (List.replicate n 0) (q : Int) = 0 := by
  unfold rd
  rw [Int.toNat_natCast, List.getD_eq_getElem?_getD, List.getElem?_replicate, if_pos h]
  rfl
theorem Legal_ev (l : List S86) (av : List Int) (has : av.length ≤ 1000) : ∃ r, Ev (fun k => config_Legal.f k l av) r ∧ (r = true ↔ LP (sh l) av) := by
  obtain ⟨K, hF⟩ := Formed_ev l
  dsimp only at hF
  have hn : (sh l).n = l.length := rfl
  have hj : ∀ k, 1 ≤ k → config_Legal.j0 k l av true = some false := fun k hk => by
    obtain ⟨k, rfl⟩ : ∃ m, k = m + 1 := ⟨k - 1, by omega⟩
    rw [config_Legal.j0, if_pos rfl]
  cases hf : formedB (sh l) with
  | false =>
    rw [hf] at hF
    refine ⟨false, ⟨K + 1, fun k hk => ?_⟩, ⟨fun e => (by cases e), fun e => ?_⟩⟩
    · dsimp only
      rw [config_Legal.f, hF k (by omega), Option.bind_some, if_neg (by decide)]
      exact hj k (by omega)
    · rw [(formedB_iff _).mpr e.1] at hf
      cases hf
  | true =>
    rw [hf] at hF
    have h := (formedB_iff _).mp hf
    have h40 : l.length ≤ 40 := h.le
    by_cases h0 : av = []
    · refine ⟨false, ⟨K + 1, fun k hk => ?_⟩, ⟨fun e => (by cases e), fun e => absurd h0 e.2.1⟩⟩
      dsimp only
      rw [config_Legal.f, hF k (by omega), Option.bind_some, if_pos rfl, h0]
      rw [h0] at hj
      exact hj k (by omega)
    · have hl0 : ((av.length : Int) == 0) = false := by
        cases av with
        | nil => exact absurd rfl h0
        | cons x y => simp; omega
      have hwl : wrap64 ((l.length : Int) + 1) = ((l.length + 1 : Nat) : Int) := wsucc (by omega)
      obtain ⟨n1, n2⟩ := legal_l0 l h av has av.length 0 (List.replicate (l.length + 1) 0) (by omega) (by simp) (fun q hq => by rw [rd_rep _ q (by omega)]; simp [ct])
      have hwrap : ∀ r, Ev (fun k => config_Legal.l0 k l av (List.replicate (l.length + 1) 0) av (av.length : Int) ((0 : Nat) : Int)) r → Ev (fun k => config_Legal.f k l av) r := by
        rintro r ⟨K1, h1⟩
        dsimp only at h1
        refine ⟨K + K1 + 1, fun k hk => ?_⟩
        obtain ⟨k, rfl⟩ : ∃ m, k = m + 1 := ⟨k - 1, by omega⟩
        dsimp only
        rw [config_Legal.f, hF (k + 1) (by omega), Option.bind_some, if_pos rfl, hl0, config_Legal.j0, if_neg (by decide), hwl, if_pos (by omega), if_pos (by omega), Int.toNat_natCast]
        exact h1 k (by omega)
      by_cases hok : okA (sh l) av
      · obtain ⟨M, m1, m2, m3⟩ := n2 fun i _ hi => hok i hi
        obtain ⟨r, hr1, hr2⟩ := legal_l1 l h av M has m1 hok av.length 0 (by omega)
        refine ⟨r, hwrap r (m3 r hr1), hr2.trans ?_⟩
        have hM : ∀ i : Int, -1 ≤ i → i < (l.length : Int) → rd M (i + 1) = (cn (sh l) av i : Int) := fun i h1 h2 => by
          have h3 := m2 (i + 1).toNat (by omega)
          rw [Int.toNat_of_nonneg (by omega)] at h3
          rw [h3, ct_cn hok i]
        have hM0 : rd M 0 = (cn (sh l) av (-1) : Int) := by
          have h3 := hM (-1) (by omega) (by omega)
          rwa [show (-1 : Int) + 1 = 0 from by omega] at h3
        constructor
        · rintro ⟨h1, h2⟩
          refine ⟨h, h0, hok, by omega, fun i hi hleaf hm => ?_⟩
          obtain ⟨j, hj, hje⟩ := List.getElem_of_mem hm
          have h3 := h1 j (Nat.zero_le _) hj
          rw [rd_get av j hj, hje] at h3
          unfold wc at h3
          rw [Int.toNat_natCast, hleaf, if_neg (by decide), hM (i : Int) (by omega) (by omega)] at h3
          split
          · rename_i hall
            rw [if_pos hall] at h3
            omega
          · rename_i hall
            rw [if_neg hall] at h3
            omega
        · rintro ⟨_, _, _, h1, h2⟩
          refine ⟨fun j _ hj => ?_, by omega⟩
          have hA := hok j hj
          obtain ⟨a, ha⟩ : ∃ a : Nat, rd av (j : Int) = a := ⟨(rd av (j : Int)).toNat, by have := hA.1; omega⟩
          have han : a < l.length := by have := hA.2.1; omega
          have ham : (a : Int) ∈ av := by rw [← ha, rd_get av j hj]; exact List.getElem_mem hj
          rw [ha]
          unfold wc
          rw [Int.toNat_natCast, hM (a : Int) (by omega) (by omega)]
          cases hleaf : (sh l).leaf a with
          | true =>
            rw [if_pos rfl, cn_leaf h av han hleaf]
            rfl
          | false =>
            rw [if_neg (by decide), h2 a han hleaf ham]
            split <;> rfl
      · refine ⟨false, hwrap false (n1 fun e => hok fun j hj => e j (Nat.zero_le _) hj), ⟨fun e => (by cases e), fun e => absurd e.2.2.1 hok⟩⟩
/-! ### the document's -/
theorem rlegal_l0 (l : List S140) (h : WF (shr l)) (av : List Int) (has : av.length ≤ 1000) : ∀ d j : Nat, j + d = av.length →
    (¬ (∀ i, j ≤ i → i < av.length → chkA (shr l) av i) → Ev (fun k => tumbrelref09_Legal.l0 k l av (av.length : Int) (j : Int)) false) ∧
    ((∀ i, j ≤ i → i < av.length → chkA (shr l) av i) → ∀ r, Ev (fun k => tumbrelref09_Legal.l1 k l av (-1)) r → Ev (fun k => tumbrelref09_Legal.l0 k l av (av.length : Int) (j : Int)) r)
  | 0, j, hd => by
    refine ⟨fun hn => absurd (fun i h1 h2 => by omega) hn, fun _ r ⟨K, hK⟩ => ⟨K + 1, fun k hk => ?_⟩⟩
    obtain ⟨k, rfl⟩ : ∃ m, k = m + 1 := ⟨k - 1, by omega⟩
    dsimp only
    rw [tumbrelref09_Legal.l0, if_neg (by omega)]
    exact hK k (by omega)
  | d + 1, j, hd => by
    have hj : j < av.length := by omega
    have hn : (shr l).n = l.length := rfl
    have h40 : l.length ≤ 40 := h.le
    have hpred : wrap64 ((j : Int) - 1) = (j : Int) - 1 := wpred' (by omega)
    obtain ⟨n1, n2⟩ := rlegal_l0 l h av has d (j + 1) (by omega)
    by_cases hA : 0 ≤ rd av (j : Int) ∧ rd av (j : Int) < (l.length : Int)
    · obtain ⟨a, ha⟩ : ∃ a : Nat, rd av (j : Int) = a := ⟨(rd av (j : Int)).toNat, by omega⟩
      have hpar : (rd_T140 l (a : Int)).f1 = (shr l).par a := rfl
      obtain ⟨K1, hC⟩ := has_ev av ((shr l).par a) has
      dsimp only at hC
      by_cases hB : 0 < j → rd av ((j : Int) - 1) < rd av (j : Int)
      · have hchk : chkA (shr l) av j ↔ (0 ≤ (shr l).par a → (shr l).par a ∈ av) := by
          unfold chkA
          rw [ha, Int.toNat_natCast]
          constructor
          · intro e
            exact e.2.2.2
          · intro e
            rw [ha] at hA hB
            exact ⟨hA.1, hA.2, hB, e⟩
        have hgo : ∀ r, (∃ K, ∀ k, K ≤ k → (if (shr l).par a ≥ 0 then ((tumbrelref09_has.f k av ((shr l).par a)).bind fun t => (if t = true then (tumbrelref09_Legal.l0 k l av (av.length : Int) ((j + 1 : Nat) : Int)) else (some false))) else (tumbrelref09_Legal.l0 k l av (av.length : Int) ((j + 1 : Nat) : Int))) = some r) → Ev (fun k => tumbrelref09_Legal.l0 k l av (av.length : Int) (j : Int)) r := by
          rintro r ⟨K, hK⟩
          refine ⟨K + 1, fun k hk => ?_⟩
          obtain ⟨k, rfl⟩ : ∃ m, k = m + 1 := ⟨k - 1, by omega⟩
          dsimp only
          rw [tumbrelref09_Legal.l0, if_pos (by omega), if_pos (by omega), if_pos (by omega), rstate_f, Option.bind_some, decide_eq_true hA, if_pos rfl]
          by_cases c3 : (j : Int) > 0
          · have := hB (by omega)
            rw [if_pos c3, hpred, if_pos (by omega), if_pos (by omega), if_neg (by omega), ha, if_pos (by omega), if_pos (by omega), hpar, wsucc (by omega)]
            exact hK k (by omega)
          · rw [if_neg c3, ha, if_pos (by omega), if_pos (by omega), hpar, wsucc (by omega)]
            exact hK k (by omega)
        have hgo2 : (0 ≤ (shr l).par a → (shr l).par a ∈ av) → ∀ r, Ev (fun k => tumbrelref09_Legal.l0 k l av (av.length : Int) ((j + 1 : Nat) : Int)) r → Ev (fun k => tumbrelref09_Legal.l0 k l av (av.length : Int) (j : Int)) r := by
          rintro hin r ⟨K, hK⟩
          refine hgo r ⟨K + K1, fun k hk => ?_⟩
          by_cases c5 : (shr l).par a ≥ 0
          · rw [if_pos c5, hC k (by omega), Option.bind_some, decide_eq_true (hin c5), if_pos rfl]
            exact hK k (by omega)
          · rw [if_neg c5]
            exact hK k (by omega)
        constructor
        · intro hno
          by_cases hin : 0 ≤ (shr l).par a → (shr l).par a ∈ av
          · refine hgo2 hin false (n1 fun hall => hno fun i h1 h2 => ?_)
            by_cases hij : i = j
            · subst hij
              exact hchk.mpr hin
            · exact hall i (by omega) h2
          · have hp0 : (shr l).par a ≥ 0 := Decidable.byContradiction fun e => hin fun e2 => absurd e2 e
            have hpn : (shr l).par a ∉ av := fun e => hin fun _ => e
            refine hgo false ⟨K1, fun k hk => ?_⟩
            rw [if_pos hp0, hC k (by omega), Option.bind_some, decide_eq_false hpn, if_neg (by decide)]
        · intro hyes r hr
          exact hgo2 (hchk.mp (hyes j (Nat.le_refl _) hj)) r (n2 (fun i h1 h2 => hyes i (by omega) h2) r hr)
      · refine ⟨fun _ => ⟨1, fun k hk => ?_⟩, fun hyes => absurd (hyes j (Nat.le_refl _) hj).2.2.1 hB⟩
        obtain ⟨k, rfl⟩ : ∃ m, k = m + 1 := ⟨k - 1, by omega⟩
        dsimp only
        have c3 : (j : Int) > 0 := Decidable.byContradiction fun e => hB fun e2 => by omega
        have c4 : ¬ rd av ((j : Int) - 1) < rd av (j : Int) := fun e => hB fun _ => e
        rw [tumbrelref09_Legal.l0, if_pos (by omega), if_pos (by omega), if_pos (by omega), rstate_f, Option.bind_some, decide_eq_true hA, if_pos rfl, if_pos c3, hpred, if_pos (by omega), if_pos (by omega), if_pos (by omega)]
    · refine ⟨fun _ => ⟨1, fun k hk => ?_⟩, fun hyes => absurd ⟨(hyes j (Nat.le_refl _) hj).1, (hyes j (Nat.le_refl _) hj).2.1⟩ hA⟩
      obtain ⟨k, rfl⟩ : ∃ m, k = m + 1 := ⟨k - 1, by omega⟩
      dsimp only
      rw [tumbrelref09_Legal.l0, if_pos (by omega), if_pos (by omega), if_pos (by omega), rstate_f, Option.bind_some, decide_eq_false hA, if_neg (by decide)]
theorem rlegal_l2 (l : List S140) (av : List Int) (has : av.length ≤ 1000) (x6 : Int) (L : List Nat) (hL : L.length ≤ 40) : ∀ (d j c : Nat), j + d = L.length → c ≤ j → ∀ r,
    Ev (fun k => if x6 ≥ 0 then (if 0 ≤ x6 then (if x6 < (l.length : Int) then (tumbrelref09_Legal.j5 k l av x6 (up L) ((c + ((L.drop j).filter fun (y : Nat) => decide ((y : Int) ∈ av)).length : Nat) : Int) 1 ((rd_T140 l x6).f4)) else (none)) else (none)) else (tumbrelref09_Legal.j5 k l av x6 (up L) ((c + ((L.drop j).filter fun (y : Nat) => decide ((y : Int) ∈ av)).length : Nat) : Int) 1 false)) r →
    Ev (fun k => tumbrelref09_Legal.l2 k l av x6 (up L) (c : Int) (L.length : Int) (j : Int)) r
  | 0, j, c, hd, hcj, r, ⟨K, hK⟩ => by
    dsimp only at hK
    rw [List.drop_eq_nil_of_le (by omega), List.filter_nil, List.length_nil, Nat.add_zero] at hK
    refine ⟨K + 1, fun k hk => ?_⟩
    obtain ⟨k, rfl⟩ : ∃ m, k = m + 1 := ⟨k - 1, by omega⟩
    dsimp only
    rw [tumbrelref09_Legal.l2, if_neg (by omega)]
    exact hK k (by omega)
  | d + 1, j, c, hd, hcj, r, hr => by
    have hj : j < L.length := by omega
    obtain ⟨K1, hC⟩ := has_ev av (L[j] : Int) has
    dsimp only at hC
    rw [List.drop_eq_getElem_cons hj] at hr
    by_cases hm : (L[j] : Int) ∈ av
    · rw [List.filter_cons_of_pos (by simp [hm]), List.length_cons] at hr
      obtain ⟨K, hK⟩ := rlegal_l2 l av has x6 L hL d (j + 1) (c + 1) (by omega) (by omega) r (by
        rw [show c + 1 + ((L.drop (j + 1)).filter fun (y : Nat) => decide ((y : Int) ∈ av)).length = c + (((L.drop (j + 1)).filter fun (y : Nat) => decide ((y : Int) ∈ av)).length + 1) by omega]
        exact hr)
      dsimp only at hK
      refine ⟨K + K1 + 1, fun k hk => ?_⟩
      obtain ⟨k, rfl⟩ : ∃ m, k = m + 1 := ⟨k - 1, by omega⟩
      dsimp only
      rw [tumbrelref09_Legal.l2, if_pos (by omega), if_pos (by omega), if_pos (by rw [up_len']; omega), rd_up L j hj, hC k (by omega), Option.bind_some, decide_eq_true hm, if_pos rfl, wsucc (by omega), wsucc (by omega)]
      exact hK k (by omega)
    · rw [List.filter_cons_of_neg (by simp [hm])] at hr
      obtain ⟨K, hK⟩ := rlegal_l2 l av has x6 L hL d (j + 1) c (by omega) (by omega) r hr
      dsimp only at hK
      refine ⟨K + K1 + 1, fun k hk => ?_⟩
      obtain ⟨k, rfl⟩ : ∃ m, k = m + 1 := ⟨k - 1, by omega⟩
      dsimp only
      rw [tumbrelref09_Legal.l2, if_pos (by omega), if_pos (by omega), if_pos (by rw [up_len']; omega), rd_up L j hj, hC k (by omega), Option.bind_some, decide_eq_false hm, if_neg (by decide), wsucc (by omega)]
      exact hK k (by omega)
/-- What is asked at i. -/
def rc (s : Sh) (av : List Int) (i : Int) : Prop := (i = -1 → cn s av i = 1) ∧ (0 ≤ i → s.leaf i.toNat = false → i ∈ av → cn s av i = if s.all i.toNat = true then (inn s i 0).length else 1)
theorem rlegal_l1 (l : List S140) (h : WF (shr l)) (av : List Int) (has : av.length ≤ 1000) : ∀ d m : Nat, m + d = l.length + 1 →
    ∃ r, Ev (fun k => tumbrelref09_Legal.l1 k l av ((m : Int) - 1)) r ∧ (r = true ↔ ∀ q : Nat, m ≤ q → q ≤ l.length → rc (shr l) av ((q : Int) - 1))
  | 0, m, hd => by
    refine ⟨true, ⟨1, fun k hk => ?_⟩, ⟨fun _ q h1 h2 => by omega, fun _ => rfl⟩⟩
    obtain ⟨k, rfl⟩ : ∃ m, k = m + 1 := ⟨k - 1, by omega⟩
    dsimp only
    rw [tumbrelref09_Legal.l1, if_neg (by omega)]
  | d + 1, m, hd => by
    have h40 : l.length ≤ 40 := h.le
    have hn : (shr l).n = l.length := rfl
    have hf := (formedB_iff (shr l)).mpr h
    obtain ⟨r, ⟨K, hK⟩, hr⟩ := rlegal_l1 l h av has d (m + 1) (by omega)
    dsimp only at hK
    rw [show ((m + 1 : Nat) : Int) - 1 = (m : Int) by omega] at hK
    have hwm : wrap64 ((m : Int) - 1 + 1) = (m : Int) := by unfold wrap64; omega
    have hcond : ∀ c : Bool, (c = true ↔ rc (shr l) av ((m : Int) - 1)) → ((c && r) = true ↔ ∀ q : Nat, m ≤ q → q ≤ l.length → rc (shr l) av ((q : Int) - 1)) := by
      intro c hc
      rw [Bool.and_eq_true, hc, hr]
      constructor
      · rintro ⟨h1, h2⟩ q h4 h5
        by_cases hq : q = m
        · subst hq
          exact h1
        · exact h2 q (by omega) h5
      · intro h1
        exact ⟨h1 m (Nat.le_refl _) (by omega), fun q h3 h4 => h1 q (by omega) h4⟩
    obtain ⟨K1, hI⟩ := rInner_ev l ((m : Int) - 1)
    dsimp only at hI
    rw [if_pos ⟨hf, decide_eq_true (by rw [hn]; omega)⟩] at hI
    have hi40 := inn_40 h ((m : Int) - 1) 0
    have hcl : cn (shr l) av ((m : Int) - 1) ≤ 40 := by
      unfold cn
      exact Nat.le_trans (List.length_filter_le _ _) hi40
    -- j3 false
    have hj3 : ∀ c : Bool, (∃ K, ∀ k, K ≤ k → (if (m : Int) - 1 ≥ 0 then (if 0 ≤ (m : Int) - 1 then (if (m : Int) - 1 < (l.length : Int) then (tumbrelref09_Legal.j5 k l av ((m : Int) - 1) (up (inn (shr l) ((m : Int) - 1) 0)) (cn (shr l) av ((m : Int) - 1) : Int) 1 ((rd_T140 l ((m : Int) - 1)).f4)) else (none)) else (none)) else (tumbrelref09_Legal.j5 k l av ((m : Int) - 1) (up (inn (shr l) ((m : Int) - 1) 0)) (cn (shr l) av ((m : Int) - 1) : Int) 1 false)) = some c) → ∃ K, ∀ k, K ≤ k → tumbrelref09_Legal.j3 k l av ((m : Int) - 1) false = some c := by
      rintro c hc
      obtain ⟨K2, h2⟩ := rlegal_l2 l av has ((m : Int) - 1) (inn (shr l) ((m : Int) - 1) 0) hi40 (inn (shr l) ((m : Int) - 1) 0).length 0 0 (by omega) (Nat.le_refl _) c (by
        rw [List.drop_zero, Nat.zero_add]
        exact hc)
      dsimp only at h2
      refine ⟨K1 + K2 + 1, fun k hk => ?_⟩
      obtain ⟨k, rfl⟩ : ∃ m, k = m + 1 := ⟨k - 1, by omega⟩
      rw [tumbrelref09_Legal.j3, if_neg (by decide), hI k (by omega), Option.bind_some, up_len']
      exact h2 k (by omega)
    have hj5 : ∀ b : Bool, ∃ K, ∀ k, K ≤ k → tumbrelref09_Legal.j5 k l av ((m : Int) - 1) (up (inn (shr l) ((m : Int) - 1) 0)) (cn (shr l) av ((m : Int) - 1) : Int) 1 b = some (decide (cn (shr l) av ((m : Int) - 1) = if b = true then (inn (shr l) ((m : Int) - 1) 0).length else 1) && r) := by
      intro b
      refine ⟨K + 1, fun k hk => ?_⟩
      obtain ⟨k, rfl⟩ : ∃ m, k = m + 1 := ⟨k - 1, by omega⟩
      cases b with
      | true =>
        rw [tumbrelref09_Legal.j5, if_pos rfl, up_len', if_pos rfl]
        by_cases c1 : cn (shr l) av ((m : Int) - 1) = (inn (shr l) ((m : Int) - 1) 0).length
        · rw [if_pos (by omega), decide_eq_true c1, hwm, Bool.true_and]
          exact hK k (by omega)
        · rw [if_neg (by omega), decide_eq_false c1, Bool.false_and]
      | false =>
        rw [tumbrelref09_Legal.j5, if_neg (show ¬ ((false : Bool) = true) by decide), if_neg (show ¬ ((false : Bool) = true) by decide)]
        by_cases c1 : cn (shr l) av ((m : Int) - 1) = 1
        · rw [if_pos (by omega), decide_eq_true c1, hwm, Bool.true_and]
          exact hK k (by omega)
        · rw [if_neg (by omega), decide_eq_false c1, Bool.false_and]
    by_cases hm0 : m = 0
    · subst hm0
      obtain ⟨K5, h5⟩ := hj5 false
      obtain ⟨K3, h3⟩ := hj3 _ ⟨K5, fun k hk => by rw [if_neg (by omega)]; exact h5 k hk⟩
      refine ⟨_, ⟨K3 + 1, fun k hk => ?_⟩, hcond (decide (cn (shr l) av (((0 : Nat) : Int) - 1) = if false = true then (inn (shr l) (((0 : Nat) : Int) - 1) 0).length else 1)) ?_⟩
      · obtain ⟨k, rfl⟩ : ∃ m, k = m + 1 := ⟨k - 1, by omega⟩
        dsimp only
        rw [tumbrelref09_Legal.l1, if_pos (by omega), if_neg (by omega)]
        exact h3 k (by omega)
      · rw [decide_eq_true_eq]
        unfold rc
        exact ⟨fun e => ⟨fun _ => e, fun h0 => absurd h0 (by omega)⟩, fun e => e.1 (by omega)⟩
    · obtain ⟨a, rfl⟩ : ∃ a, m = a + 1 := ⟨m - 1, by omega⟩
      have ea : ((a + 1 : Nat) : Int) - 1 = (a : Int) := by omega
      rw [ea] at hj3 hj5 hcond hwm ⊢
      obtain ⟨K4, hC⟩ := has_ev av (a : Int) has
      dsimp only at hC
      have hlf : (shr l).leaf a = (rd_T140 l (a : Int)).f6 := rfl
      have hal : (shr l).all a = (rd_T140 l (a : Int)).f4 := rfl
      have hskip : ∀ k, K + 1 ≤ k → tumbrelref09_Legal.j3 k l av (a : Int) true = some r := fun k hk => by
        obtain ⟨k, rfl⟩ : ∃ m, k = m + 1 := ⟨k - 1, by omega⟩
        rw [tumbrelref09_Legal.j3, if_pos rfl, hwm]
        exact hK k (by omega)
      by_cases c1 : (rd_T140 l (a : Int)).f6 = true
      · refine ⟨true && r, ⟨K + 2, fun k hk => ?_⟩, hcond true ⟨fun _ => ⟨fun e => absurd e (by omega), fun _ e => ?_⟩, fun _ => rfl⟩⟩
        · obtain ⟨k, rfl⟩ : ∃ m, k = m + 1 := ⟨k - 1, by omega⟩
          dsimp only
          rw [tumbrelref09_Legal.l1, if_pos (by omega), if_pos (by omega), if_pos (by omega), if_pos c1, hskip k (by omega), Bool.true_and]
        · rw [Int.toNat_natCast, hlf, c1] at e
          cases e
      · by_cases c2 : (a : Int) ∈ av
        · obtain ⟨K5, h5⟩ := hj5 ((rd_T140 l (a : Int)).f4)
          obtain ⟨K3, h3⟩ := hj3 _ ⟨K5, fun k hk => by rw [if_pos (by omega), if_pos (by omega), if_pos (by omega)]; exact h5 k hk⟩
          refine ⟨_, ⟨K3 + K4 + 1, fun k hk => ?_⟩, hcond (decide (cn (shr l) av (a : Int) = if (rd_T140 l (a : Int)).f4 = true then (inn (shr l) (a : Int) 0).length else 1)) ?_⟩
          · obtain ⟨k, rfl⟩ : ∃ m, k = m + 1 := ⟨k - 1, by omega⟩
            dsimp only
            rw [tumbrelref09_Legal.l1, if_pos (by omega), if_pos (by omega), if_pos (by omega), if_neg c1, hC k (by omega), Option.bind_some, decide_eq_true c2]
            exact h3 k (by omega)
          · rw [decide_eq_true_eq]
            unfold rc
            rw [Int.toNat_natCast, hlf, hal]
            exact ⟨fun e => ⟨fun e2 => absurd e2 (by omega), fun _ _ _ => e⟩, fun e => e.2 (by omega) (Bool.eq_false_iff.mpr c1) c2⟩
        · refine ⟨true && r, ⟨K + K4 + 2, fun k hk => ?_⟩, hcond true ⟨fun _ => ⟨fun e => absurd e (by omega), fun _ _ e => absurd e c2⟩, fun _ => rfl⟩⟩
          obtain ⟨k, rfl⟩ : ∃ m, k = m + 1 := ⟨k - 1, by omega⟩
          dsimp only
          rw [tumbrelref09_Legal.l1, if_pos (by omega), if_pos (by omega), if_pos (by omega), if_neg c1, hC k (by omega), Option.bind_some, decide_eq_false c2, show (!false) = true from rfl, hskip k (by omega), Bool.true_and]
theorem rLegal_ev (l : List S140) (av : List Int) (has : av.length ≤ 1000) : ∃ r, Ev (fun k => tumbrelref09_Legal.f k l av) r ∧ (r = true ↔ LP (shr l) av) := by
  obtain ⟨K, hF⟩ := rFormed_ev l
  dsimp only at hF
  have hn : (shr l).n = l.length := rfl
  have hj : ∀ k, 1 ≤ k → tumbrelref09_Legal.j0 k l av true = some false := fun k hk => by
    obtain ⟨k, rfl⟩ : ∃ m, k = m + 1 := ⟨k - 1, by omega⟩
    rw [tumbrelref09_Legal.j0, if_pos rfl]
  cases hf : formedB (shr l) with
  | false =>
    rw [hf] at hF
    refine ⟨false, ⟨K + 1, fun k hk => ?_⟩, ⟨fun e => (by cases e), fun e => ?_⟩⟩
    · dsimp only
      rw [tumbrelref09_Legal.f, hF k (by omega), Option.bind_some, if_neg (by decide)]
      exact hj k (by omega)
    · rw [(formedB_iff _).mpr e.1] at hf
      cases hf
  | true =>
    rw [hf] at hF
    have h := (formedB_iff _).mp hf
    have h40 : l.length ≤ 40 := h.le
    by_cases h0 : (av.length : Int) = 0
    · refine ⟨false, ⟨K + 1, fun k hk => ?_⟩, ⟨fun e => (by cases e), fun e => absurd (List.eq_nil_of_length_eq_zero (by omega)) e.2.1⟩⟩
      dsimp only
      rw [tumbrelref09_Legal.f, hF k (by omega), Option.bind_some, if_pos rfl, if_pos h0]
      exact hj k (by omega)
    · by_cases hlen : (av.length : Int) > (l.length : Int)
      · refine ⟨false, ⟨K + 1, fun k hk => ?_⟩, ⟨fun e => (by cases e), fun e => ?_⟩⟩
        · dsimp only
          rw [tumbrelref09_Legal.f, hF k (by omega), Option.bind_some, if_pos rfl, if_neg h0, decide_eq_true hlen]
          exact hj k (by omega)
        · have := okA_len e.2.2.1
          omega
      · obtain ⟨n1, n2⟩ := rlegal_l0 l h av has av.length 0 (by omega)
        have hwrap : ∀ r, Ev (fun k => tumbrelref09_Legal.l0 k l av (av.length : Int) ((0 : Nat) : Int)) r → Ev (fun k => tumbrelref09_Legal.f k l av) r := by
          rintro r ⟨K1, h1⟩
          dsimp only at h1
          refine ⟨K + K1 + 1, fun k hk => ?_⟩
          obtain ⟨k, rfl⟩ : ∃ m, k = m + 1 := ⟨k - 1, by omega⟩
          dsimp only
          rw [tumbrelref09_Legal.f, hF (k + 1) (by omega), Option.bind_some, if_pos rfl, if_neg h0, decide_eq_false hlen, tumbrelref09_Legal.j0, if_neg (by decide)]
          exact h1 k (by omega)
        by_cases hok : okA (shr l) av
        · obtain ⟨r, hr1, hr2⟩ := rlegal_l1 l h av has (l.length + 1) 0 (by omega)
          refine ⟨r, hwrap r (n2 (fun i _ hi => hok i hi) r hr1), hr2.trans ?_⟩
          constructor
          · intro hq
            refine ⟨h, fun e => h0 (by rw [e]; rfl), hok, (hq 0 (Nat.le_refl _) (Nat.zero_le _)).1 rfl, fun i hi hleaf hm => ?_⟩
            have := (hq (i + 1) (Nat.zero_le _) (by omega)).2
            rw [show ((i + 1 : Nat) : Int) - 1 = (i : Int) by omega, Int.toNat_natCast] at this
            exact this (by omega) hleaf hm
          · rintro ⟨_, _, _, h1, h2⟩ q _ hq
            refine ⟨fun e => by rw [e]; exact h1, fun e0 hleaf hm => ?_⟩
            obtain ⟨a, rfl⟩ : ∃ a, q = a + 1 := ⟨q - 1, by omega⟩
            rw [show ((a + 1 : Nat) : Int) - 1 = (a : Int) by omega, Int.toNat_natCast] at hleaf ⊢
            rw [show ((a + 1 : Nat) : Int) - 1 = (a : Int) by omega] at hm
            exact h2 a (by omega) hleaf hm
        · exact ⟨false, hwrap false (n1 fun e => hok fun j hj => e j (Nat.zero_le _) hj), ⟨fun e => (by cases e), fun e => absurd e.2.2.1 hok⟩⟩
end Go.Proofs.Ytjghlomkimoeoaa.Tr
