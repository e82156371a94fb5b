/- SealSeals: any payload is sealed as the document says, or refused; no condition. -/
import Derived.Test.YtbfmndikbbfcdaaPSealSealsx1
import Derived.Test.YtbfmndikbbfcdaaSl
namespace Go.Proofs.Ytbfmndikbbfcdaa.Pure
open Go.RowKit Go.Proofs.Ytbfmndikbbfcdaa.PSealSeals Go.Proofs.YtbfmndikbbfcdaaW.PrintWords Go.Proofs.YtbfmndikbbfcdaaW.PrintLast

theorem seal_l1 (l : List Int) (n i : Int) (r : Int) : ∀ (d : Nat) (s : BitVec 16) (j : Int), j + d = 8 → 0 ≤ j →
    Ev (fun k => seal_Sum.l0 k ((Crc.steps d s).toNat : Int) l n (wrap64 (i + 1))) r → Ev (fun k => seal_Sum.l1 k (s.toNat : Int) l n i j) r
  | 0, s, j, hj, h0, h => by
    refine Ev.step (fun k => by rw [seal_Sum.l1, if_neg (by omega)]; rfl) h
  | d + 1, s, j, hj, h0, h => by
    have ih := seal_l1 l n i r d (Crc.step s) (j + 1) (by omega) (by omega) h
    refine Ev.step (fun k => by rw [seal_Sum.l1, if_pos (by omega), Crc.impl_step, Crc.wrap64_id (by omega) (by omega)]) ih
theorem seal_l0 (l : List Int) (hl : l.length ≤ 140737488355328) : ∀ (d : Nat) (i : Nat) (s : BitVec 16), i + d = l.length →
    Ev (fun k => seal_Sum.l0 k (s.toNat : Int) l (l.length : Int) (i : Int)) (((l.drop i).foldl Crc.upd s).toNat : Int)
  | 0, i, s, hi => by
    refine Ev.step (fun k => by rw [seal_Sum.l0, if_neg (by omega)]) (Crc.Ev_val ?_)
    rw [List.drop_of_length_le (by omega)]
    rfl
  | d + 1, i, s, hi => by
    have ih := seal_l0 l hl d (i + 1) (Crc.upd s (rd l i)) (by omega)
    have hd : l.drop i = rd l i :: l.drop (i + 1) := by
      rw [List.drop_eq_getElem_cons (by omega)]
      congr 1
      simp [rd, List.getD_eq_getElem?_getD, List.getElem?_eq_getElem (show i < l.length by omega)]
    rw [hd, List.foldl_cons]
    refine Ev.step (fun k => by rw [seal_Sum.l0, if_pos (by omega), if_pos (by omega), if_pos (by omega), Crc.start_byte]) ?_
    refine seal_l1 l _ _ _ 8 _ 0 (by omega) (by omega) ?_
    rw [Crc.wrap64_id (by omega) (by omega)]
    exact ih
theorem seal_sum (l : List Int) (hl : l.length ≤ 140737488355328) : Ev (fun k => seal_Sum.f k l) ((Crc.sum l).toNat : Int) := seal_l0 l hl l.length 0 0xffff#16 (by omega)

theorem ref_l1 (l : List Int) (n i : Int) (r : Int) : ∀ (d : Nat) (s : BitVec 16) (j : Int), j + d = 8 → 0 ≤ j →
    Ev (fun k => tumbrelref01_Sum.l0 k l ((Crc.steps d s).toNat : Int) n (wrap64 (i + 1))) r → Ev (fun k => tumbrelref01_Sum.l1 k l (s.toNat : Int) n i j) r
  | 0, s, j, hj, h0, h => by
    refine Ev.step (fun k => by rw [tumbrelref01_Sum.l1, if_neg (by omega)]; rfl) h
  | d + 1, s, j, hj, h0, h => by
    have ih := ref_l1 l n i r d (Crc.step s) (j + 1) (by omega) (by omega) h
    cases hm : s.msb
    · refine Ev.step (fun k => by rw [tumbrelref01_Sum.l1, if_pos (by omega), if_pos ((Crc.ref_test s).2 hm), Crc.ref_shift s hm, Crc.wrap64_id (by omega) (by omega)]) ih
    · refine Ev.step (fun k => by rw [tumbrelref01_Sum.l1, if_pos (by omega), if_neg (fun h_ => by rw [(Crc.ref_test s).1 h_] at hm; cases hm), Crc.ref_xor s hm, Crc.wrap64_id (by omega) (by omega)]) ih
theorem ref_l0 (l : List Int) (hl : l.length ≤ 140737488355328) : ∀ (d : Nat) (i : Nat) (s : BitVec 16), i + d = l.length →
    Ev (fun k => tumbrelref01_Sum.l0 k l (s.toNat : Int) (l.length : Int) (i : Int)) (((l.drop i).foldl Crc.upd s).toNat : Int)
  | 0, i, s, hi => by
    refine Ev.step (fun k => by rw [tumbrelref01_Sum.l0, if_neg (by omega)]) (Crc.Ev_val ?_)
    rw [List.drop_of_length_le (by omega)]
    rfl
  | d + 1, i, s, hi => by
    have ih := ref_l0 l hl d (i + 1) (Crc.upd s (rd l i)) (by omega)
    have hd : l.drop i = rd l i :: l.drop (i + 1) := by
      rw [List.drop_eq_getElem_cons (by omega)]
      congr 1
      simp [rd, List.getD_eq_getElem?_getD, List.getElem?_eq_getElem (show i < l.length by omega)]
    rw [hd, List.foldl_cons]
    refine Ev.step (fun k => by rw [tumbrelref01_Sum.l0, if_pos (by omega), if_pos (by omega), if_pos (by omega), Crc.start_byte]) ?_
    refine ref_l1 l _ _ _ 8 _ 0 (by omega) (by omega) ?_
    rw [Crc.wrap64_id (by omega) (by omega)]
    exact ih
theorem ref_sum (l : List Int) (hl : l.length ≤ 140737488355328) : Ev (fun k => tumbrelref01_Sum.f k l) ((Crc.sum l).toNat : Int) := ref_l0 l hl l.length 0 0xffff#16 (by omega)

theorem two_f (l : List Int) (n : Int) (hl : l.length < 140737488355326) : seal_two.f l n = some (l ++ Sl.two2 n) := by
  unfold seal_two.f
  rw [Option.bind_some, if_pos (by simp; omega)]
  rfl
theorem seal_f (l : List Int) (hl : l.length ≤ 140737488355328) : Ev (fun k => seal_Seal.f k l) (Sl.sealed l) := by
  unfold seal_Seal.f Sl.sealed
  by_cases h0 : (l.length : Int) = 0
  · rw [if_pos h0]
    exact Crc.Ev_ite_pos h0 (Ev.now _)
  · rw [if_neg h0]
    refine Crc.Ev_ite_neg h0 ?_
    by_cases h1 : (l.length : Int) > 14000
    · rw [if_pos h1]
      exact Crc.Ev_ite_pos h1 (Ev.now _)
    · rw [if_neg h1]
      refine Crc.Ev_ite_neg h1 ?_
      rw [Sl.u16_id (by omega) (by omega)]
      refine Crc.Ev_const (two_f [] _ (by simp)) ?_
      rw [List.nil_append]
      refine Ev.bind (seal_sum _ (by simp [Sl.two_len])) ?_
      refine Crc.Ev_const (two_f _ _ (by simp [Sl.two_len])) ?_
      refine Crc.Ev_ite_pos (by simp [Sl.two_len]; omega) (Crc.Ev_let ?_)
      refine Ev.bind (seal_sum _ (by simp [Sl.two_len]; omega)) ?_
      refine Crc.Ev_const (two_f _ _ (by simp [Sl.two_len]; omega)) (Crc.Ev_val ?_)
      rfl

theorem refTwo_f (n : Int) : tumbrelref01_two.f n = some (Sl.two2 n) := rfl
theorem refSeal_f (l : List Int) (hl : l.length ≤ 140737488355328) : Ev (fun k => tumbrelref01_Seal.f k l) (Sl.sealed l) := by
  unfold tumbrelref01_Seal.f Sl.sealed
  by_cases h0 : (l.length : Int) = 0
  · rw [if_pos h0]
    exact Crc.Ev_ite_pos h0 (Ev.now _)
  · rw [if_neg h0]
    refine Crc.Ev_ite_neg h0 ?_
    by_cases h1 : (l.length : Int) > 14000
    · rw [if_pos h1]
      exact Crc.Ev_ite_pos h1 (Ev.now _)
    · rw [if_neg h1]
      refine Crc.Ev_ite_neg h1 ?_
      rw [Sl.u16_id (by omega) (by omega)]
      refine Crc.Ev_const (refTwo_f _) ?_
      refine Ev.bind (ref_sum _ (by simp [Sl.two_len])) ?_
      refine Crc.Ev_const (refTwo_f _) ?_
      refine Crc.Ev_ite_pos (by simp [Sl.two_len]) (Crc.Ev_let ?_)
      refine Crc.Ev_ite_pos (by simp [Sl.two_len]; omega) (Crc.Ev_let ?_)
      refine Ev.bind (ref_sum _ (by simp [Sl.two_len]; omega)) ?_
      refine Crc.Ev_const (refTwo_f _) ?_
      refine Crc.Ev_ite_pos (by simp [Sl.two_len]; omega) (Crc.Ev_val ?_)
      rfl

theorem SealSeals : tumbrellaw02_SealSeals.Pure := by
  intro l0 hl _ _
  unfold maxLen at hl
  have hl' : l0.length ≤ 140737488355328 := by omega
  refine Ev.rounds (g := fun k => tumbrellaw02_SealSeals.f k l0) ?_
  refine Ev.bind (seal_f l0 hl') (Ev.bind (refSeal_f l0 hl') (Ev.bind (seal_f [97] (by decide)) ?_))
  exact Crc.Ev_ite_pos rfl (Crc.Ev_ite_pos rfl (Crc.Ev_val (by decide +kernel)))

end Go.Proofs.Ytbfmndikbbfcdaa.Pure
