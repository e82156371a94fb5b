/- SealBack: what was sealed is opened as it was, whatever stands behind it; cut off, it lacks something; with one byte turned it is bad; what is read is of bulk at most 1048576; no condition. -/
import Derived.Test.YtbfmndikbbfcdaaPSealBackx2
import Derived.Test.YtbfmndikbbfcdaaBack
namespace Go.Proofs.Ytbfmndikbbfcdaa.Pure
open Go.RowKit Go.Proofs.Ytbfmndikbbfcdaa.PSealBack Go.Proofs.YtbfmndikbbfcdaaW.PrintWords Go.Proofs.YtbfmndikbbfcdaaW.PrintLast

theorem seal_l1 (l : List Int) (n i : Int) (r : Int) : ∀ (d : Nat) (s : BitVec 16) (j : Int), j + d = 8 → 0 ≤ j →
    Ev (fun k => seal_Sum.l0 k ((Crc.steps d s).toNat : Int) l n (wrap64 (i + 1))) r → Ev (fun k => seal_Sum.l1 k (s.toNat : Int) l n i j) r
  | 0, s, j, hj, h0, h => by
    refine Ev.step (fun k => by rw [seal_Sum.l1, if_neg (by omega)]; rfl) h
  | d + 1, s, j, hj, h0, h => by
    have ih := seal_l1 l n i r d (Crc.step s) (j + 1) (by omega) (by omega) h
    refine Ev.step (fun k => by rw [seal_Sum.l1, if_pos (by omega), Crc.impl_step, Crc.wrap64_id (by omega) (by omega)]) ih
theorem seal_l0 (l : List Int) (hl : l.length ≤ 140737488355328) : ∀ (d : Nat) (i : Nat) (s : BitVec 16), i + d = l.length →
    Ev (fun k => seal_Sum.l0 k (s.toNat : Int) l (l.length : Int) (i : Int)) (((l.drop i).foldl Crc.upd s).toNat : Int)
  | 0, i, s, hi => by
    refine Ev.step (fun k => by rw [seal_Sum.l0, if_neg (by omega)]) (Crc.Ev_val ?_)
    rw [List.drop_of_length_le (by omega)]
    rfl
  | d + 1, i, s, hi => by
    have ih := seal_l0 l hl d (i + 1) (Crc.upd s (rd l i)) (by omega)
    have hd : l.drop i = rd l i :: l.drop (i + 1) := by
      rw [List.drop_eq_getElem_cons (by omega)]
      congr 1
      simp [rd, List.getD_eq_getElem?_getD, List.getElem?_eq_getElem (show i < l.length by omega)]
    rw [hd, List.foldl_cons]
    refine Ev.step (fun k => by rw [seal_Sum.l0, if_pos (by omega), if_pos (by omega), if_pos (by omega), Crc.start_byte]) ?_
    refine seal_l1 l _ _ _ 8 _ 0 (by omega) (by omega) ?_
    rw [Crc.wrap64_id (by omega) (by omega)]
    exact ih
theorem seal_sum (l : List Int) (hl : l.length ≤ 140737488355328) : Ev (fun k => seal_Sum.f k l) ((Crc.sum l).toNat : Int) := seal_l0 l hl l.length 0 0xffff#16 (by omega)

theorem two_f (l : List Int) (n : Int) (hl : l.length < 140737488355326) : seal_two.f l n = some (l ++ Sl.two2 n) := by
  unfold seal_two.f
  rw [Option.bind_some, if_pos (by simp; omega)]
  rfl
theorem seal_f (l : List Int) (hl : l.length ≤ 140737488355328) : Ev (fun k => seal_Seal.f k l) (Sl.sealed l) := by
  unfold seal_Seal.f Sl.sealed
  by_cases h0 : (l.length : Int) = 0
  · rw [if_pos h0]
    exact Crc.Ev_ite_pos h0 (Ev.now _)
  · rw [if_neg h0]
    refine Crc.Ev_ite_neg h0 ?_
    by_cases h1 : (l.length : Int) > 14000
    · rw [if_pos h1]
      exact Crc.Ev_ite_pos h1 (Ev.now _)
    · rw [if_neg h1]
      refine Crc.Ev_ite_neg h1 ?_
      rw [Sl.u16_id (by omega) (by omega)]
      refine Crc.Ev_const (two_f [] _ (by simp)) ?_
      rw [List.nil_append]
      refine Ev.bind (seal_sum _ (by simp [Sl.two_len])) ?_
      refine Crc.Ev_const (two_f _ _ (by simp [Sl.two_len])) ?_
      refine Crc.Ev_ite_pos (by simp [Sl.two_len]; omega) (Crc.Ev_let ?_)
      refine Ev.bind (seal_sum _ (by simp [Sl.two_len]; omega)) ?_
      refine Crc.Ev_const (two_f _ _ (by simp [Sl.two_len]; omega)) (Crc.Ev_val ?_)
      rfl

theorem of_f (l : List Int) (hl : 2 ≤ l.length) (hb : ∀ c ∈ l, 0 ≤ c ∧ c < 256) : seal_of.f l = some (Sl.of2 l) := by
  have h0 := Sl.rd_byte hb 0
  have h1 := Sl.rd_byte hb 1
  unfold seal_of.f Sl.of2
  rw [if_pos (by omega), if_pos (by omega), Sl.u16_id (n := rd l 0) (by omega) (by omega), Sl.u16_id (n := rd l 0 * 256) (by omega) (by omega), Sl.u16_id (n := rd l 1) (by omega) (by omega), Sl.or_u16 _ _ h0 h1]
theorem clone_f (l : List Int) (hl : l.length < 140737488355328) : slices_Clone_byte_byte.f l = some l := by
  unfold slices_Clone_byte_byte.f
  rw [Option.bind_some, if_pos (by simp; omega), List.nil_append]
theorem open_j0 (l : List Int) (n : Int) (hl : l.length ≤ 140737488355328) (hb : ∀ c ∈ l, 0 ≤ c ∧ c < 256) (hn : 0 ≤ n ∧ n < 65536) (bad : Bool) (hbad : bad = false → n ≤ 14000) :
    Ev (fun k => seal_Open.j0 k l n bad) (if bad = true then ([], 0, 9) else if (l.length : Int) < 6 + n then ([], 0, 5) else
      if Sl.sm (l.take (4 + n).toNat) ≠ Sl.of2 (l.drop (4 + n).toNat) then ([], 0, 9) else ((l.take (4 + n).toNat).drop 4, 6 + n, 0)) := by
  refine Ev.step (fun k => by rw [seal_Open.j0]) ?_
  cases bad with
  | true => exact Crc.Ev_ite_pos rfl (Crc.Ev_val rfl)
  | false =>
    have hn1 := hbad rfl
    simp only [Bool.false_eq_true, if_false]
    have e4 : wrap64 (4 + n) = 4 + n := Crc.wrap64_id (by omega) (by omega)
    have e6 : wrap64 (4 + n + 2) = 6 + n := by rw [Crc.wrap64_id (by omega) (by omega)]; omega
    rw [e4, e6]
    by_cases h1 : (l.length : Int) < 6 + n
    · rw [if_pos h1]
      exact Crc.Ev_ite_pos h1 (Ev.now _)
    · rw [if_neg h1]
      refine Crc.Ev_ite_neg h1 (Crc.Ev_ite_pos (by omega) (Crc.Ev_ite_pos (by omega) ?_))
      refine Ev.bind (seal_sum _ (by rw [List.length_take]; omega)) ?_
      refine Crc.Ev_const (of_f _ (by rw [List.length_drop]; omega) (fun c hc => hb c (List.mem_of_mem_drop hc))) ?_
      by_cases h2 : Sl.sm (l.take (4 + n).toNat) = Sl.of2 (l.drop (4 + n).toNat)
      · rw [if_neg (c := Sl.sm (l.take (4 + n).toNat) ≠ Sl.of2 (l.drop (4 + n).toNat)) (fun h => h h2)]
        refine Crc.Ev_ite_pos h2 (Crc.Ev_ite_pos (by omega) ?_)
        exact Crc.Ev_const (clone_f _ (by rw [List.length_drop, List.length_take]; omega)) (Ev.now _)
      · rw [if_pos (c := Sl.sm (l.take (4 + n).toNat) ≠ Sl.of2 (l.drop (4 + n).toNat)) h2]
        exact Crc.Ev_ite_neg h2 (Ev.now _)
theorem open_f (l : List Int) (hl : l.length ≤ 140737488355328) (hb : ∀ c ∈ l, 0 ≤ c ∧ c < 256) : Ev (fun k => seal_Open.f k l) (Sl.open_ l) := by
  unfold seal_Open.f Sl.open_
  by_cases h4 : (l.length : Int) < 4
  · rw [if_pos h4]
    exact Crc.Ev_ite_pos h4 (Ev.now _)
  · rw [if_neg h4]
    refine Crc.Ev_ite_neg h4 (Crc.Ev_const (of_f l (by omega) hb) ?_)
    have hr := Sl.of2_range hb
    rw [Crc.wrap64_id (n := Sl.of2 l) (by omega) (by omega)]
    simp only
    by_cases h0 : Sl.of2 l = 0
    · rw [if_pos (Or.inl h0)]
      exact Crc.Ev_ite_pos h0 (by simpa using open_j0 l (Sl.of2 l) hl hb hr true (by simp))
    · refine Crc.Ev_ite_neg h0 ?_
      by_cases h1 : Sl.of2 l > 14000
      · rw [if_pos (Or.inr (Or.inl h1))]
        exact Crc.Ev_ite_pos h1 (by simpa using open_j0 l (Sl.of2 l) hl hb hr true (by simp))
      · refine Crc.Ev_ite_neg h1 (Crc.Ev_ite_pos (by omega) ?_)
        refine Ev.bind (seal_sum _ (by rw [List.length_take]; omega)) ?_
        refine Crc.Ev_const (of_f _ (by rw [List.length_drop]; omega) (fun c hc => hb c (List.mem_of_mem_drop hc))) ?_
        have hj := open_j0 l (Sl.of2 l) hl hb hr (Sl.sm (l.take 2) != Sl.of2 (l.drop 2)) (fun _ => by omega)
        by_cases h2 : Sl.sm (l.take 2) = Sl.of2 (l.drop 2)
        · rw [if_neg (fun h => h.elim h0 (fun h => h.elim h1 (fun h => h h2)))]
          rw [show (Sl.sm (l.take 2) != Sl.of2 (l.drop 2)) = false from by simp [h2], if_neg (by simp)] at hj
          rw [show ((((Crc.sum (l.take 2)).toNat : Nat) : Int) != Sl.of2 (l.drop 2)) = false from by simpa [Sl.sm] using h2]
          exact hj
        · rw [if_pos (Or.inr (Or.inr h2))]
          rw [show (Sl.sm (l.take 2) != Sl.of2 (l.drop 2)) = true from by simp [h2], if_pos rfl] at hj
          rw [show ((((Crc.sum (l.take 2)).toNat : Nat) : Int) != Sl.of2 (l.drop 2)) = true from by simpa [Sl.sm] using h2]
          exact hj

theorem SealBack : tumbrellaw02_SealBack.Pure := by
  intro l0 l1 a2 a3 hl0 hm0 hw0 hl1 hm1 hw1 ha2 ha3
  have hb0 : Sl.Bytes l0 := Pk.bytes_of hw0
  have hb1 : Sl.Bytes l1 := Pk.bytes_of hw1
  have r2 : 0 ≤ a2 ∧ a2 < 18446744073709551616 := by
    simp [Lit.wf, IntKind.min, IntKind.max, IntKind.signed, IntKind.bits] at ha2
    omega
  have r3 : 0 ≤ a3 ∧ a3 < 256 := by
    simp [Lit.wf, IntKind.min, IntKind.max, IntKind.signed, IntKind.bits] at ha3
    omega
  refine Ev.rounds (g := fun k => tumbrellaw02_SealBack.f k l0 l1 a2 a3) ?_
  have hs := seal_f l0 (by omega)
  by_cases hz : l0.length = 0
  · have e : Sl.sealed l0 = ([], 1) := by unfold Sl.sealed; rw [if_pos (by omega)]
    rw [e] at hs
    refine Ev.bind hs (Crc.Ev_ite_neg (by decide) (Ev.step (fun k => by rw [tumbrellaw02_SealBack.j0]) ?_))
    exact Crc.Ev_ite_pos rfl (Crc.Ev_ite_pos rfl (Crc.Ev_ite_neg (by decide) (Crc.Ev_ite_pos (by omega) (Ev.now true))))
  by_cases hg : 14000 < l0.length
  · have e : Sl.sealed l0 = ([], 4) := by unfold Sl.sealed; rw [if_neg (by omega), if_pos (by omega)]
    rw [e] at hs
    refine Ev.bind hs (Crc.Ev_ite_neg (by decide) (Ev.step (fun k => by rw [tumbrellaw02_SealBack.j0]) ?_))
    exact Crc.Ev_ite_pos rfl (Crc.Ev_ite_pos rfl (Crc.Ev_ite_neg (by decide) (Crc.Ev_ite_neg (by omega) (Crc.Ev_val (decide_eq_true (by omega))))))
  rw [Sl.sealed_eq l0 (by omega) (by omega)] at hs
  have hlen := Sl.bseal_length l0
  have hbb := Sl.bseal_bytes l0 hb0
  obtain ⟨f1, f2, f3, f4⟩ := Sl.bseal_facts l0 (by omega)
  refine Ev.bind hs (Crc.Ev_ite_pos rfl ?_)
  have hne : (((Sl.bseal l0).length : Int) == 0) = false := by
    rw [beq_eq_false_iff_ne]
    omega
  rw [hne]
  generalize hB : Sl.bseal l0 = b at *
  refine Ev.step (fun k => by rw [tumbrellaw02_SealBack.j0]) ?_
  simp only [List.nil_append, Option.bind_some]
  refine Crc.Ev_ite_neg (by decide) ?_
  refine Crc.Ev_ite_pos (by simp only [List.length_nil]; omega) (Crc.Ev_ite_pos (by omega) ?_)
  have hgood := Sl.open_good hlen f1 (by omega) (by omega) f2 f3 l1
  have o1 := open_f (b ++ l1) (by rw [List.length_append]; omega) (hbb.append hb1)
  rw [hgood, f4] at o1
  refine Ev.bind o1 ?_
  have ek : IntKind.u64.wrap ((b.length : Int)) = b.length := Pk.u64_id (by omega) (by omega)
  rw [ek]
  obtain ⟨k, hk, hkl⟩ : ∃ k : Nat, wrap64 (Int.tmod a2 (b.length : Int)) = k ∧ k < b.length := by
    have h1 : Int.tmod a2 (b.length : Int) = a2 % (b.length : Int) := Int.tmod_eq_emod_of_nonneg r2.1
    have h2 := Int.emod_nonneg a2 (show (b.length : Int) ≠ 0 from by omega)
    have h3 := Int.emod_lt_of_pos a2 (show 0 < (b.length : Int) from by omega)
    refine ⟨(a2 % (b.length : Int)).toNat, ?_, by omega⟩
    rw [h1, Crc.wrap64_id (by omega) (by omega)]
    omega
  rw [hk]
  refine Crc.Ev_ite_neg (by omega) (Crc.Ev_ite_pos (by omega) (Crc.Ev_ite_pos (by omega) ?_))
  rw [Int.toNat_natCast]
  have hcut := Sl.open_cut hlen f1 (by omega) (by omega) f2 k hkl
  refine Ev.bind (open_f (b.take k) (by rw [List.length_take]; omega) (fun c hc => hbb c (List.mem_of_mem_take hc))) ?_
  refine Crc.Ev_ite_pos (by simp only [List.length_nil]; omega) (Crc.Ev_ite_pos (by omega) ?_)
  rw [Sl.rd_at b k hkl]
  have hx := Sl.xor_range b[k] a3
  have hturn := Sl.open_turned hlen hbb f1 (by omega) (by omega) f2 f3 l1 k hkl _ hx
  have hi := Sl.xor_self_iff (hbb b[k] (List.getElem_mem hkl)) r3
  refine Crc.Ev_ite_pos (by rw [List.length_set]; omega) ?_
  refine Ev.bind (open_f _ (by rw [List.length_append, List.length_set]; omega) ((hbb.set k hx).append hb1)) ?_
  refine Crc.Ev_ite_pos rfl (Crc.Ev_ite_pos (by dsimp only; omega) (Crc.Ev_ite_pos rfl (Crc.Ev_ite_pos hcut (Crc.Ev_val ?_))))
  rw [beq_iff_eq, Bool.eq_iff_iff, beq_iff_eq, beq_iff_eq, hturn, hi]

end Go.Proofs.Ytbfmndikbbfcdaa.Pure
