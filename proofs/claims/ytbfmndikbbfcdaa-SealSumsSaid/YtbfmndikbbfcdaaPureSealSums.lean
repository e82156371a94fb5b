/- SealSums: any bytes have the sum that the document says; no condition. -/
import Derived.Test.YtbfmndikbbfcdaaPSealSumsx1
import Derived.Test.YtbfmndikbbfcdaaSl
namespace Go.Proofs.Ytbfmndikbbfcdaa.Pure
open Go.RowKit Go.Proofs.Ytbfmndikbbfcdaa.PSealSums Go.Proofs.YtbfmndikbbfcdaaW.PrintWords Go.Proofs.YtbfmndikbbfcdaaW.PrintLast

theorem seal_l1 (l : List Int) (n i : Int) (r : Int) : ∀ (d : Nat) (s : BitVec 16) (j : Int), j + d = 8 → 0 ≤ j →
    Ev (fun k => seal_Sum.l0 k ((Crc.steps d s).toNat : Int) l n (wrap64 (i + 1))) r → Ev (fun k => seal_Sum.l1 k (s.toNat : Int) l n i j) r
  | 0, s, j, hj, h0, h => by
    refine Ev.step (fun k => by rw [seal_Sum.l1, if_neg (by omega)]; rfl) h
  | d + 1, s, j, hj, h0, h => by
    have ih := seal_l1 l n i r d (Crc.step s) (j + 1) (by omega) (by omega) h
    refine Ev.step (fun k => by rw [seal_Sum.l1, if_pos (by omega), Crc.impl_step, Crc.wrap64_id (by omega) (by omega)]) ih
theorem seal_l0 (l : List Int) (hl : l.length ≤ 140737488355328) : ∀ (d : Nat) (i : Nat) (s : BitVec 16), i + d = l.length →
    Ev (fun k => seal_Sum.l0 k (s.toNat : Int) l (l.length : Int) (i : Int)) (((l.drop i).foldl Crc.upd s).toNat : Int)
  | 0, i, s, hi => by
    refine Ev.step (fun k => by rw [seal_Sum.l0, if_neg (by omega)]) (Crc.Ev_val ?_)
    rw [List.drop_of_length_le (by omega)]
    rfl
  | d + 1, i, s, hi => by
    have ih := seal_l0 l hl d (i + 1) (Crc.upd s (rd l i)) (by omega)
    have hd : l.drop i = rd l i :: l.drop (i + 1) := by
      rw [List.drop_eq_getElem_cons (by omega)]
      congr 1
      simp [rd, List.getD_eq_getElem?_getD, List.getElem?_eq_getElem (show i < l.length by omega)]
    rw [hd, List.foldl_cons]
    refine Ev.step (fun k => by rw [seal_Sum.l0, if_pos (by omega), if_pos (by omega), if_pos (by omega), Crc.start_byte]) ?_
    refine seal_l1 l _ _ _ 8 _ 0 (by omega) (by omega) ?_
    rw [Crc.wrap64_id (by omega) (by omega)]
    exact ih
theorem seal_sum (l : List Int) (hl : l.length ≤ 140737488355328) : Ev (fun k => seal_Sum.f k l) ((Crc.sum l).toNat : Int) := seal_l0 l hl l.length 0 0xffff#16 (by omega)

theorem ref_l1 (l : List Int) (n i : Int) (r : Int) : ∀ (d : Nat) (s : BitVec 16) (j : Int), j + d = 8 → 0 ≤ j →
    Ev (fun k => tumbrelref01_Sum.l0 k l ((Crc.steps d s).toNat : Int) n (wrap64 (i + 1))) r → Ev (fun k => tumbrelref01_Sum.l1 k l (s.toNat : Int) n i j) r
  | 0, s, j, hj, h0, h => by
    refine Ev.step (fun k => by rw [tumbrelref01_Sum.l1, if_neg (by omega)]; rfl) h
  | d + 1, s, j, hj, h0, h => by
    have ih := ref_l1 l n i r d (Crc.step s) (j + 1) (by omega) (by omega) h
    cases hm : s.msb
    · refine Ev.step (fun k => by rw [tumbrelref01_Sum.l1, if_pos (by omega), if_pos ((Crc.ref_test s).2 hm), Crc.ref_shift s hm, Crc.wrap64_id (by omega) (by omega)]) ih
    · refine Ev.step (fun k => by rw [tumbrelref01_Sum.l1, if_pos (by omega), if_neg (fun h_ => by rw [(Crc.ref_test s).1 h_] at hm; cases hm), Crc.ref_xor s hm, Crc.wrap64_id (by omega) (by omega)]) ih
theorem ref_l0 (l : List Int) (hl : l.length ≤ 140737488355328) : ∀ (d : Nat) (i : Nat) (s : BitVec 16), i + d = l.length →
    Ev (fun k => tumbrelref01_Sum.l0 k l (s.toNat : Int) (l.length : Int) (i : Int)) (((l.drop i).foldl Crc.upd s).toNat : Int)
  | 0, i, s, hi => by
    refine Ev.step (fun k => by rw [tumbrelref01_Sum.l0, if_neg (by omega)]) (Crc.Ev_val ?_)
    rw [List.drop_of_length_le (by omega)]
    rfl
  | d + 1, i, s, hi => by
    have ih := ref_l0 l hl d (i + 1) (Crc.upd s (rd l i)) (by omega)
    have hd : l.drop i = rd l i :: l.drop (i + 1) := by
      rw [List.drop_eq_getElem_cons (by omega)]
      congr 1
      simp [rd, List.getD_eq_getElem?_getD, List.getElem?_eq_getElem (show i < l.length by omega)]
    rw [hd, List.foldl_cons]
    refine Ev.step (fun k => by rw [tumbrelref01_Sum.l0, if_pos (by omega), if_pos (by omega), if_pos (by omega), Crc.start_byte]) ?_
    refine ref_l1 l _ _ _ 8 _ 0 (by omega) (by omega) ?_
    rw [Crc.wrap64_id (by omega) (by omega)]
    exact ih
theorem ref_sum (l : List Int) (hl : l.length ≤ 140737488355328) : Ev (fun k => tumbrelref01_Sum.f k l) ((Crc.sum l).toNat : Int) := ref_l0 l hl l.length 0 0xffff#16 (by omega)

theorem SealSums : tumbrellaw02_SealSums.Pure := by
  intro l0 hl _ _
  unfold maxLen at hl
  refine Ev.rounds (g := fun k => tumbrellaw02_SealSums.f k l0) ?_
  have hb : l0.length ≤ 140737488355328 := by omega
  refine Ev.bind (seal_sum l0 hb) (Ev.bind (ref_sum l0 hb) (Crc.Ev_ite_pos rfl (Ev.bind (seal_sum _ (by decide)) (Crc.Ev_val ?_))))
  decide +kernel

end Go.Proofs.Ytbfmndikbbfcdaa.Pure
