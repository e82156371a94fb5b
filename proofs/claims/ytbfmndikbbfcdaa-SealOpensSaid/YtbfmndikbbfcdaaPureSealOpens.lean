/- SealOpens: any bytes are opened as the document says; no condition. -/
import Derived.Test.YtbfmndikbbfcdaaPSealOpensx3
import Derived.Test.YtbfmndikbbfcdaaSl
namespace Go.Proofs.Ytbfmndikbbfcdaa.Pure
open Go.RowKit Go.Proofs.Ytbfmndikbbfcdaa.PSealOpens Go.Proofs.YtbfmndikbbfcdaaW.PrintWords Go.Proofs.YtbfmndikbbfcdaaW.PrintLast

theorem seal_l1 (l : List Int) (n i : Int) (r : Int) : ∀ (d : Nat) (s : BitVec 16) (j : Int), j + d = 8 → 0 ≤ j →
    Ev (fun k => seal_Sum.l0 k ((Crc.steps d s).toNat : Int) l n (wrap64 (i + 1))) r → Ev (fun k => seal_Sum.l1 k (s.toNat : Int) l n i j) r
  | 0, s, j, hj, h0, h => by
    refine Ev.step (fun k => by rw [seal_Sum.l1, if_neg (by omega)]; rfl) h
  | d + 1, s, j, hj, h0, h => by
    have ih := seal_l1 l n i r d (Crc.step s) (j + 1) (by omega) (by omega) h
    refine Ev.step (fun k => by rw [seal_Sum.l1, if_pos (by omega), Crc.impl_step, Crc.wrap64_id (by omega) (by omega)]) ih
theorem seal_l0 (l : List Int) (hl : l.length ≤ 140737488355328) : ∀ (d : Nat) (i : Nat) (s : BitVec 16), i + d = l.length →
    Ev (fun k => seal_Sum.l0 k (s.toNat : Int) l (l.length : Int) (i : Int)) (((l.drop i).foldl Crc.upd s).toNat : Int)
  | 0, i, s, hi => by
    refine Ev.step (fun k => by rw [seal_Sum.l0, if_neg (by omega)]) (Crc.Ev_val ?_)
    rw [List.drop_of_length_le (by omega)]
    rfl
  | d + 1, i, s, hi => by
    have ih := seal_l0 l hl d (i + 1) (Crc.upd s (rd l i)) (by omega)
    have hd : l.drop i = rd l i :: l.drop (i + 1) := by
      rw [List.drop_eq_getElem_cons (by omega)]
      congr 1
      simp [rd, List.getD_eq_getElem?_getD, List.getElem?_eq_getElem (show i < l.length by omega)]
    rw [hd, List.foldl_cons]
    refine Ev.step (fun k => by rw [seal_Sum.l0, if_pos (by omega), if_pos (by omega), if_pos (by omega), Crc.start_byte]) ?_
    refine seal_l1 l _ _ _ 8 _ 0 (by omega) (by omega) ?_
    rw [Crc.wrap64_id (by omega) (by omega)]
    exact ih
theorem seal_sum (l : List Int) (hl : l.length ≤ 140737488355328) : Ev (fun k => seal_Sum.f k l) ((Crc.sum l).toNat : Int) := seal_l0 l hl l.length 0 0xffff#16 (by omega)

theorem ref_l1 (l : List Int) (n i : Int) (r : Int) : ∀ (d : Nat) (s : BitVec 16) (j : Int), j + d = 8 → 0 ≤ j →
    Ev (fun k => tumbrelref01_Sum.l0 k l ((Crc.steps d s).toNat : Int) n (wrap64 (i + 1))) r → Ev (fun k => tumbrelref01_Sum.l1 k l (s.toNat : Int) n i j) r
  | 0, s, j, hj, h0, h => by
    refine Ev.step (fun k => by rw [tumbrelref01_Sum.l1, if_neg (by omega)]; rfl) h
  | d + 1, s, j, hj, h0, h => by
    have ih := ref_l1 l n i r d (Crc.step s) (j + 1) (by omega) (by omega) h
    cases hm : s.msb
    · refine Ev.step (fun k => by rw [tumbrelref01_Sum.l1, if_pos (by omega), if_pos ((Crc.ref_test s).2 hm), Crc.ref_shift s hm, Crc.wrap64_id (by omega) (by omega)]) ih
    · refine Ev.step (fun k => by rw [tumbrelref01_Sum.l1, if_pos (by omega), if_neg (fun h_ => by rw [(Crc.ref_test s).1 h_] at hm; cases hm), Crc.ref_xor s hm, Crc.wrap64_id (by omega) (by omega)]) ih
theorem ref_l0 (l : List Int) (hl : l.length ≤ 140737488355328) : ∀ (d : Nat) (i : Nat) (s : BitVec 16), i + d = l.length →
    Ev (fun k => tumbrelref01_Sum.l0 k l (s.toNat : Int) (l.length : Int) (i : Int)) (((l.drop i).foldl Crc.upd s).toNat : Int)
  | 0, i, s, hi => by
    refine Ev.step (fun k => by rw [tumbrelref01_Sum.l0, if_neg (by omega)]) (Crc.Ev_val ?_)
    rw [List.drop_of_length_le (by omega)]
    rfl
  | d + 1, i, s, hi => by
    have ih := ref_l0 l hl d (i + 1) (Crc.upd s (rd l i)) (by omega)
    have hd : l.drop i = rd l i :: l.drop (i + 1) := by
      rw [List.drop_eq_getElem_cons (by omega)]
      congr 1
      simp [rd, List.getD_eq_getElem?_getD, List.getElem?_eq_getElem (show i < l.length by omega)]
    rw [hd, List.foldl_cons]
    refine Ev.step (fun k => by rw [tumbrelref01_Sum.l0, if_pos (by omega), if_pos (by omega), if_pos (by omega), Crc.start_byte]) ?_
    refine ref_l1 l _ _ _ 8 _ 0 (by omega) (by omega) ?_
    rw [Crc.wrap64_id (by omega) (by omega)]
    exact ih
theorem ref_sum (l : List Int) (hl : l.length ≤ 140737488355328) : Ev (fun k => tumbrelref01_Sum.f k l) ((Crc.sum l).toNat : Int) := ref_l0 l hl l.length 0 0xffff#16 (by omega)

theorem refTwo_f (n : Int) : tumbrelref01_two.f n = some (Sl.two2 n) := rfl
theorem refSeal_f (l : List Int) (hl : l.length ≤ 140737488355328) : Ev (fun k => tumbrelref01_Seal.f k l) (Sl.sealed l) := by
  unfold tumbrelref01_Seal.f Sl.sealed
  by_cases h0 : (l.length : Int) = 0
  · rw [if_pos h0]
    exact Crc.Ev_ite_pos h0 (Ev.now _)
  · rw [if_neg h0]
    refine Crc.Ev_ite_neg h0 ?_
    by_cases h1 : (l.length : Int) > 14000
    · rw [if_pos h1]
      exact Crc.Ev_ite_pos h1 (Ev.now _)
    · rw [if_neg h1]
      refine Crc.Ev_ite_neg h1 ?_
      rw [Sl.u16_id (by omega) (by omega)]
      refine Crc.Ev_const (refTwo_f _) ?_
      refine Ev.bind (ref_sum _ (by simp [Sl.two_len])) ?_
      refine Crc.Ev_const (refTwo_f _) ?_
      refine Crc.Ev_ite_pos (by simp [Sl.two_len]) (Crc.Ev_let ?_)
      refine Crc.Ev_ite_pos (by simp [Sl.two_len]; omega) (Crc.Ev_let ?_)
      refine Ev.bind (ref_sum _ (by simp [Sl.two_len]; omega)) ?_
      refine Crc.Ev_const (refTwo_f _) ?_
      refine Crc.Ev_ite_pos (by simp [Sl.two_len]; omega) (Crc.Ev_val ?_)
      rfl

theorem of_f (l : List Int) (hl : 2 ≤ l.length) (hb : ∀ c ∈ l, 0 ≤ c ∧ c < 256) : seal_of.f l = some (Sl.of2 l) := by
  have h0 := Sl.rd_byte hb 0
  have h1 := Sl.rd_byte hb 1
  unfold seal_of.f Sl.of2
  rw [if_pos (by omega), if_pos (by omega), Sl.u16_id (n := rd l 0) (by omega) (by omega), Sl.u16_id (n := rd l 0 * 256) (by omega) (by omega), Sl.u16_id (n := rd l 1) (by omega) (by omega), Sl.or_u16 _ _ h0 h1]
theorem clone_f (l : List Int) (hl : l.length < 140737488355328) : slices_Clone_byte_byte.f l = some l := by
  unfold slices_Clone_byte_byte.f
  rw [Option.bind_some, if_pos (by simp; omega), List.nil_append]
theorem open_j0 (l : List Int) (n : Int) (hl : l.length ≤ 140737488355328) (hb : ∀ c ∈ l, 0 ≤ c ∧ c < 256) (hn : 0 ≤ n ∧ n < 65536) (bad : Bool) (hbad : bad = false → n ≤ 14000) :
    Ev (fun k => seal_Open.j0 k l n bad) (if bad = true then ([], 0, 9) else if (l.length : Int) < 6 + n then ([], 0, 5) else
      if Sl.sm (l.take (4 + n).toNat) ≠ Sl.of2 (l.drop (4 + n).toNat) then ([], 0, 9) else ((l.take (4 + n).toNat).drop 4, 6 + n, 0)) := by
  refine Ev.step (fun k => by rw [seal_Open.j0]) ?_
  cases bad with
  | true => exact Crc.Ev_ite_pos rfl (Crc.Ev_val rfl)
  | false =>
    have hn1 := hbad rfl
    simp only [Bool.false_eq_true, if_false]
    have e4 : wrap64 (4 + n) = 4 + n := Crc.wrap64_id (by omega) (by omega)
    have e6 : wrap64 (4 + n + 2) = 6 + n := by rw [Crc.wrap64_id (by omega) (by omega)]; omega
    rw [e4, e6]
    by_cases h1 : (l.length : Int) < 6 + n
    · rw [if_pos h1]
      exact Crc.Ev_ite_pos h1 (Ev.now _)
    · rw [if_neg h1]
      refine Crc.Ev_ite_neg h1 (Crc.Ev_ite_pos (by omega) (Crc.Ev_ite_pos (by omega) ?_))
      refine Ev.bind (seal_sum _ (by rw [List.length_take]; omega)) ?_
      refine Crc.Ev_const (of_f _ (by rw [List.length_drop]; omega) (fun c hc => hb c (List.mem_of_mem_drop hc))) ?_
      by_cases h2 : Sl.sm (l.take (4 + n).toNat) = Sl.of2 (l.drop (4 + n).toNat)
      · rw [if_neg (c := Sl.sm (l.take (4 + n).toNat) ≠ Sl.of2 (l.drop (4 + n).toNat)) (fun h => h h2)]
        refine Crc.Ev_ite_pos h2 (Crc.Ev_ite_pos (by omega) ?_)
        exact Crc.Ev_const (clone_f _ (by rw [List.length_drop, List.length_take]; omega)) (Ev.now _)
      · rw [if_pos (c := Sl.sm (l.take (4 + n).toNat) ≠ Sl.of2 (l.drop (4 + n).toNat)) h2]
        exact Crc.Ev_ite_neg h2 (Ev.now _)
theorem open_f (l : List Int) (hl : l.length ≤ 140737488355328) (hb : ∀ c ∈ l, 0 ≤ c ∧ c < 256) : Ev (fun k => seal_Open.f k l) (Sl.open_ l) := by
  unfold seal_Open.f Sl.open_
  by_cases h4 : (l.length : Int) < 4
  · rw [if_pos h4]
    exact Crc.Ev_ite_pos h4 (Ev.now _)
  · rw [if_neg h4]
    refine Crc.Ev_ite_neg h4 (Crc.Ev_const (of_f l (by omega) hb) ?_)
    have hr := Sl.of2_range hb
    rw [Crc.wrap64_id (n := Sl.of2 l) (by omega) (by omega)]
    simp only
    by_cases h0 : Sl.of2 l = 0
    · rw [if_pos (Or.inl h0)]
      exact Crc.Ev_ite_pos h0 (by simpa using open_j0 l (Sl.of2 l) hl hb hr true (by simp))
    · refine Crc.Ev_ite_neg h0 ?_
      by_cases h1 : Sl.of2 l > 14000
      · rw [if_pos (Or.inr (Or.inl h1))]
        exact Crc.Ev_ite_pos h1 (by simpa using open_j0 l (Sl.of2 l) hl hb hr true (by simp))
      · refine Crc.Ev_ite_neg h1 (Crc.Ev_ite_pos (by omega) ?_)
        refine Ev.bind (seal_sum _ (by rw [List.length_take]; omega)) ?_
        refine Crc.Ev_const (of_f _ (by rw [List.length_drop]; omega) (fun c hc => hb c (List.mem_of_mem_drop hc))) ?_
        have hj := open_j0 l (Sl.of2 l) hl hb hr (Sl.sm (l.take 2) != Sl.of2 (l.drop 2)) (fun _ => by omega)
        by_cases h2 : Sl.sm (l.take 2) = Sl.of2 (l.drop 2)
        · rw [if_neg (fun h => h.elim h0 (fun h => h.elim h1 (fun h => h h2)))]
          rw [show (Sl.sm (l.take 2) != Sl.of2 (l.drop 2)) = false from by simp [h2], if_neg (by simp)] at hj
          rw [show ((((Crc.sum (l.take 2)).toNat : Nat) : Int) != Sl.of2 (l.drop 2)) = false from by simpa [Sl.sm] using h2]
          exact hj
        · rw [if_pos (Or.inr (Or.inr h2))]
          rw [show (Sl.sm (l.take 2) != Sl.of2 (l.drop 2)) = true from by simp [h2], if_pos rfl] at hj
          rw [show ((((Crc.sum (l.take 2)).toNat : Nat) : Int) != Sl.of2 (l.drop 2)) = true from by simpa [Sl.sm] using h2]
          exact hj

theorem refOpen_j0 (l : List Int) (n : Int) (hl : l.length ≤ 140737488355328) (hb : ∀ c ∈ l, 0 ≤ c ∧ c < 256) (hn : 0 ≤ n ∧ n < 65536) (bad : Bool) (hbad : bad = false → n ≤ 14000) :
    Ev (fun k => tumbrelref01_Open.j0 k l n bad) (if bad = true then ([], 0, 9) else if (l.length : Int) < 6 + n then ([], 0, 5) else
      if Sl.sm (l.take (4 + n).toNat) ≠ Sl.of2 (l.drop (4 + n).toNat) then ([], 0, 9) else ((l.take (4 + n).toNat).drop 4, 6 + n, 0)) := by
  refine Ev.step (fun k => by rw [tumbrelref01_Open.j0]) ?_
  cases bad with
  | true => exact Crc.Ev_ite_pos rfl (Crc.Ev_val rfl)
  | false =>
    have hn1 := hbad rfl
    simp only [Bool.false_eq_true, if_false]
    have e4 : wrap64 (4 + n) = 4 + n := Crc.wrap64_id (by omega) (by omega)
    have e6 : wrap64 (6 + n) = 6 + n := Crc.wrap64_id (by omega) (by omega)
    rw [e4, e6]
    by_cases h1 : (l.length : Int) < 6 + n
    · rw [if_pos h1]
      exact Crc.Ev_ite_pos h1 (Ev.now _)
    · rw [if_neg h1]
      refine Crc.Ev_ite_neg h1 (Crc.Ev_ite_pos (by omega) (Crc.Ev_ite_pos (by omega) ?_))
      refine Ev.bind (ref_sum _ (by rw [List.length_take]; omega)) ?_
      refine Crc.Ev_const (refTwo_f _) (Crc.Ev_ite_pos (by omega) (Crc.Ev_ite_pos (by omega) ?_))
      obtain ⟨m, hm⟩ : ∃ m : Nat, (4 + n).toNat = m := ⟨_, rfl⟩
      have hm6 : (6 + n).toNat = m + 2 := by omega
      rw [hm, hm6]
      have hs := Sl.sm_range (l.take m)
      have key := Sl.two_str (l := l) (k := m) (Sl.sm (l.take m)) (by omega) hb hs.1 hs.2
      by_cases h2 : Sl.sm (l.take m) = Sl.of2 (l.drop m)
      · rw [if_neg (c := Sl.sm (l.take m) ≠ Sl.of2 (l.drop m)) (fun h => h h2)]
        refine Crc.Ev_ite_pos (key.2 h2) (Crc.Ev_let (Crc.Ev_ite_pos (by omega) (Crc.Ev_ite_pos (by simp; omega) (Crc.Ev_val ?_))))
        rw [List.nil_append]
      · rw [if_pos (c := Sl.sm (l.take m) ≠ Sl.of2 (l.drop m)) h2]
        exact Crc.Ev_ite_neg (fun h => h2 (key.1 h)) (Ev.now _)
theorem refOpen_f (l : List Int) (hl : l.length ≤ 140737488355328) (hb : ∀ c ∈ l, 0 ≤ c ∧ c < 256) : Ev (fun k => tumbrelref01_Open.f k l) (Sl.open_ l) := by
  unfold tumbrelref01_Open.f Sl.open_
  by_cases h4 : (l.length : Int) < 4
  · rw [if_pos h4]
    exact Crc.Ev_ite_pos h4 (Ev.now _)
  · rw [if_neg h4]
    have hr := Sl.of2_range hb
    have ha := Sl.rd_byte hb 0
    have hb1 := Sl.rd_byte hb 1
    have e : Go.bits .or .i64 (wrap64 ((wrap64 (rd l 0)) * 256)) (wrap64 (rd l 1)) = Sl.of2 l := by
      rw [Crc.wrap64_id (n := rd l 0) (by omega) (by omega), Crc.wrap64_id (n := rd l 0 * 256) (by omega) (by omega), Crc.wrap64_id (n := rd l 1) (by omega) (by omega), Pk.or_byte _ _ hb1.1 hb1.2 ⟨by omega, by omega⟩]
      rfl
    rw [e]
    refine Crc.Ev_ite_neg h4 (Crc.Ev_ite_pos (by omega) (Crc.Ev_ite_pos (by omega) ?_))
    simp only
    by_cases h0 : Sl.of2 l = 0
    · rw [if_pos (Or.inl h0)]
      exact Crc.Ev_ite_pos (by omega) (by simpa using refOpen_j0 l (Sl.of2 l) hl hb hr true (by simp))
    · refine Crc.Ev_ite_neg (by omega) ?_
      by_cases h1 : Sl.of2 l > 14000
      · rw [if_pos (Or.inr (Or.inl h1))]
        exact Crc.Ev_ite_pos h1 (by simpa using refOpen_j0 l (Sl.of2 l) hl hb hr true (by simp))
      · refine Crc.Ev_ite_neg h1 (Crc.Ev_ite_pos (by omega) ?_)
        refine Ev.bind (ref_sum _ (by rw [List.length_take]; omega)) ?_
        refine Crc.Ev_const (refTwo_f _) (Crc.Ev_ite_pos (by omega) (Crc.Ev_ite_pos (by omega) ?_))
        have hs := Sl.sm_range (l.take 2)
        have key := Sl.two_str (l := l) (k := 2) (Sl.sm (l.take 2)) (by omega) hb hs.1 hs.2
        by_cases h2 : Sl.sm (l.take 2) = Sl.of2 (l.drop 2)
        · have hj := refOpen_j0 l (Sl.of2 l) hl hb hr false (fun _ => by omega)
          rw [if_neg (fun h => h.elim h0 (fun h => h.elim h1 (fun h => h h2)))]
          rw [if_neg (by simp)] at hj
          have e2 : ((strOfNums (Sl.two2 ((Crc.sum (l.take 2)).toNat : Int))).toList != (strOfNums ((l.take 4).drop 2)).toList) = false := by
            rw [bne_eq_false_iff_eq]
            exact key.2 h2
          rw [e2]
          exact hj
        · have hj := refOpen_j0 l (Sl.of2 l) hl hb hr true (by simp)
          rw [if_pos (Or.inr (Or.inr h2))]
          rw [if_pos rfl] at hj
          have e2 : ((strOfNums (Sl.two2 ((Crc.sum (l.take 2)).toNat : Int))).toList != (strOfNums ((l.take 4).drop 2)).toList) = true := by
            rw [bne_iff_ne]
            exact fun h => h2 (key.1 h)
          rw [e2]
          exact hj

theorem SealOpens : tumbrellaw02_SealOpens.Pure := by
  intro l0 hl _ hw
  unfold maxLen at hl
  have hl' : l0.length ≤ 140737488355328 := by omega
  have hb := Pk.bytes_of hw
  have known : (Sl.sealed [97]).1.length ≤ 140737488355328 ∧ ∀ c ∈ (Sl.sealed [97]).1, 0 ≤ c ∧ c < 256 := by decide +kernel
  refine Ev.rounds (g := fun k => tumbrellaw02_SealOpens.f k l0) ?_
  refine Ev.bind (open_f l0 hl' hb) (Ev.bind (refOpen_f l0 hl' hb) (Ev.bind (refSeal_f [97] (by decide)) (Ev.bind (open_f _ known.1 known.2) ?_)))
  exact Crc.Ev_ite_pos rfl (Crc.Ev_ite_pos rfl (Crc.Ev_ite_pos rfl (Crc.Ev_ite_pos (by decide +kernel) (Crc.Ev_val (by decide +kernel)))))

end Go.Proofs.Ytbfmndikbbfcdaa.Pure
