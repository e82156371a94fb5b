/- PackKeeps: what is written behind is left as it is; no condition. -/
import Derived.Test.YtbfmndikbbfcdaaPPackKeepsx1
import Derived.Test.YtbfmndikbbfcdaaBack
namespace Go.Proofs.Ytbfmndikbbfcdaa.Pure
open Go.RowKit Go.Proofs.Ytbfmndikbbfcdaa.PPackKeeps Go.Proofs.YtbfmndikbbfcdaaW.PrintWords Go.Proofs.YtbfmndikbbfcdaaW.PrintLast

theorem width_l0 (n : Int) : ∀ (d w : Nat), w + d = 8 → 0 < w → Ev (fun k => pack_width.l0 k n (w : Int)) ((Pk.widLoop d w n : Nat) : Int)
  | 0, w, hw, _ => by
    refine Ev.step (fun k => by rw [pack_width.l0, if_neg (by omega)]; rfl) (Crc.Ev_val rfl)
  | d + 1, w, hw, h0 => by
    have ih := width_l0 n d (w + 1) (by omega) (by omega)
    refine Ev.step (fun k => by rw [pack_width.l0, if_pos (by omega), Crc.wrap64_id (n := 8 * (w : Int)) (by omega) (by omega), Crc.wrap64_id (n := 8 * (w : Int) - 1) (by omega) (by omega), if_pos (by omega), Pk.shr_at n w (by omega) h0]) ?_
    unfold Pk.widLoop
    by_cases h1 : n / 2 ^ (8 * w - 1) = 0
    · rw [if_pos (Or.inl h1)]
      exact Crc.Ev_ite_pos h1 (Crc.Ev_val rfl)
    · refine Crc.Ev_ite_neg h1 ?_
      by_cases h2 : n / 2 ^ (8 * w - 1) = -1
      · rw [if_pos (Or.inr h2)]
        exact Crc.Ev_ite_pos h2 (Crc.Ev_val rfl)
      · refine Crc.Ev_ite_neg h2 ?_
        rw [if_neg (fun h => h.elim h1 h2), Crc.wrap64_id (by omega) (by omega)]
        exact ih
theorem width_f (n : Int) : Ev (fun k => pack_width.f k n) (Pk.wid n : Int) := by
  unfold pack_width.f Pk.wid
  by_cases h : n = 0
  · rw [if_pos h]
    exact Crc.Ev_ite_pos h (Ev.now 0)
  · rw [if_neg h]
    exact Crc.Ev_ite_neg h (width_l0 n 7 1 (by omega) (by omega))

theorem rdL1_at (l : List (List Int)) (i : Nat) (h : i < l.length) : rd_L1 l (i : Int) = l[i] := by
  simp [rd_L1, List.getD_eq_getElem?_getD, List.getElem?_eq_getElem h]
theorem concat_l1 (l : List (List Int)) : ∀ (d i : Nat) (acc : List Int), i + d = l.length → acc.length + Pk.total (l.drop i) < 140737488355328 → l.length < 1000000 →
    Ev (fun k => slices_Concat_byte_byte.l1 k acc l (l.length : Int) (i : Int)) (acc ++ (l.drop i).flatten)
  | 0, i, acc, hi, _, _ => by
    refine Ev.step (fun k => by rw [slices_Concat_byte_byte.l1, if_neg (by omega)]) (Crc.Ev_val ?_)
    rw [List.drop_of_length_le (by omega)]
    simp
  | d + 1, i, acc, hi, ht, hl => by
    have hd : l.drop i = l[i] :: l.drop (i + 1) := List.drop_eq_getElem_cons (by omega)
    rw [hd, Pk.total_cons] at ht
    have ih := concat_l1 l d (i + 1) (acc ++ l[i]) (by omega) (by rw [List.length_append]; omega) hl
    rw [hd, List.flatten_cons, ← List.append_assoc]
    refine Ev.step (fun k => by rw [slices_Concat_byte_byte.l1, if_pos (by omega), if_pos (by omega), if_pos (by omega), rdL1_at l i (by omega), if_pos (by omega), Crc.wrap64_id (by omega) (by omega)]; rfl) ih
theorem concat_l0 (l : List (List Int)) (hl : l.length < 1000000) (hall : Pk.total l < 140737488355328) : ∀ (d i s : Nat), i + d = l.length → s + Pk.total (l.drop i) = Pk.total l →
    Ev (fun k => slices_Concat_byte_byte.l0 k l (s : Int) l (l.length : Int) (i : Int)) l.flatten
  | 0, i, s, hi, hs => by
    have hc := concat_l1 l l.length 0 [] (by omega) (by simpa using hall) hl
    rw [List.drop_zero, List.nil_append] at hc
    refine Ev.step (fun k => by rw [slices_Concat_byte_byte.l0, if_neg (by omega), if_pos (by omega), if_pos (by omega)]; rfl) hc
  | d + 1, i, s, hi, hs => by
    have hd : l.drop i = l[i] :: l.drop (i + 1) := List.drop_eq_getElem_cons (by omega)
    rw [hd, Pk.total_cons] at hs
    have ih := concat_l0 l hl hall d (i + 1) (s + l[i].length) (by omega) (by omega)
    have e : wrap64 ((s : Int) + (l[i].length : Int)) = ((s + l[i].length : Nat) : Int) := by rw [Crc.wrap64_id (by omega) (by omega)]; omega
    refine Ev.step (fun k => by rw [slices_Concat_byte_byte.l0, if_pos (by omega), if_pos (by omega), if_pos (by omega), rdL1_at l i (by omega), e, if_neg (by omega), Crc.wrap64_id (n := (i : Int) + 1) (by omega) (by omega)]; rfl) ih
theorem number_l0 (n : Int) : ∀ (j : Nat) (acc : List Int), j ≤ 8 → acc.length + j < 140737488355328 → Ev (fun k => pack_Number.l0 k n ((j : Int) - 1) acc) (acc ++ Pk.be j n)
  | 0, acc, _, _ => by
    refine Ev.step (fun k => by rw [pack_Number.l0, if_neg (by omega)]) (Crc.Ev_val (by simp [Pk.be]))
  | j + 1, acc, h8, h => by
    have ih := number_l0 n j (acc ++ [(n / 2 ^ (8 * j)) % 256]) (by omega) (by rw [List.length_append, List.length_singleton]; omega)
    have e : ((j + 1 : Nat) : Int) - 1 = (j : Int) := by omega
    rw [e]
    refine Ev.step (fun k => by rw [pack_Number.l0, if_pos (by omega), Crc.wrap64_id (n := 8 * (j : Int)) (by omega) (by omega), if_pos (by omega), if_pos (by omega), Pk.shr_byte n j (by omega), Crc.wrap64_id (n := (j : Int) - 1) (by omega) (by omega)]) ?_
    rw [List.append_assoc] at ih
    exact ih
theorem number_f (b : List Int) (n : Int) (hb : b.length + 16 ≤ 140737488355328) : Ev (fun k => pack_Number.f k b n) (b ++ Pk.number n) := by
  have hw := Pk.wid_le n
  unfold pack_Number.f
  refine Ev.bind (width_f n) ?_
  rw [Int.emod_eq_of_lt (by omega) (by omega)]
  have hc := concat_l0 [b, [(Pk.wid n : Int)]] (by simp) (by simp [Pk.total]; omega) 2 0 0 (by simp) (by simp)
  refine Ev.bind (a := b ++ [(Pk.wid n : Int)]) (by rw [show [b, [(Pk.wid n : Int)]].flatten = b ++ [(Pk.wid n : Int)] from by simp] at hc; exact hc) ?_
  rw [Crc.wrap64_id (by omega) (by omega)]
  have hn := number_l0 n (Pk.wid n) (b ++ [(Pk.wid n : Int)]) hw (by rw [List.length_append, List.length_singleton]; omega)
  rw [List.append_assoc] at hn
  exact hn

theorem number_length (n : Int) : (Pk.number n).length ≤ 9 := by
  have hw := Pk.wid_le n
  rw [Pk.number, List.length_cons, Pk.be_length]
  omega
theorem text_f (b : List Int) (s : ByteArray) (h : b.length + s.size + 100 ≤ 140737488355328) : Ev (fun k => pack_Text.f k b s) (b ++ Pk.text s) := by
  have hn := number_length (s.size : Int)
  unfold pack_Text.f
  refine Ev.bind (number_f b (s.size : Int) (by omega)) (Crc.Ev_ite_pos (by rw [List.length_append]; omega) (Crc.Ev_val ?_))
  rw [List.append_assoc]
  rfl

theorem ev_at {α : Type} {g : Nat → Option α} {r : α} (h : Ev g r) : ∃ k, g k = some r := by
  obtain ⟨K, hK⟩ := h
  exact ⟨K, hK K (Nat.le_refl _)⟩
def ab : ByteArray := { data := #[97, 98] }
theorem ab_length : (Pk.text ab).length = 4 := by decide
theorem number_some (n : Int) : ∃ c r, Pk.number n = c :: r ∧ r.length ≤ 8 := ⟨_, _, rfl, by rw [Pk.be_length]; exact Pk.wid_le n⟩

end Go.Proofs.Ytbfmndikbbfcdaa.Pure
