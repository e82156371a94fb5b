/- PackItems: any items have the bytes that the document says, or none; and are read as they were; what is read is of bulk at most 1048576; no condition. -/
import Derived.Test.YtbfmndikbbfcdaaPPackItemsx7
import Derived.Test.YtbfmndikbbfcdaaBack
namespace Go.Proofs.Ytbfmndikbbfcdaa.Pure
open Go.RowKit Go.Proofs.Ytbfmndikbbfcdaa.PPackItems Go.Proofs.YtbfmndikbbfcdaaW.PrintWords Go.Proofs.YtbfmndikbbfcdaaW.PrintLast

theorem width_l0 (n : Int) : ∀ (d w : Nat), w + d = 8 → 0 < w → Ev (fun k => pack_width.l0 k n (w : Int)) ((Pk.widLoop d w n : Nat) : Int)
  | 0, w, hw, _ => by
    refine Ev.step (fun k => by rw [pack_width.l0, if_neg (by omega)]; rfl) (Crc.Ev_val rfl)
  | d + 1, w, hw, h0 => by
    have ih := width_l0 n d (w + 1) (by omega) (by omega)
    refine Ev.step (fun k => by rw [pack_width.l0, if_pos (by omega), Crc.wrap64_id (n := 8 * (w : Int)) (by omega) (by omega), Crc.wrap64_id (n := 8 * (w : Int) - 1) (by omega) (by omega), if_pos (by omega), Pk.shr_at n w (by omega) h0]) ?_
    unfold Pk.widLoop
    by_cases h1 : n / 2 ^ (8 * w - 1) = 0
    · rw [if_pos (Or.inl h1)]
      exact Crc.Ev_ite_pos h1 (Crc.Ev_val rfl)
    · refine Crc.Ev_ite_neg h1 ?_
      by_cases h2 : n / 2 ^ (8 * w - 1) = -1
      · rw [if_pos (Or.inr h2)]
        exact Crc.Ev_ite_pos h2 (Crc.Ev_val rfl)
      · refine Crc.Ev_ite_neg h2 ?_
        rw [if_neg (fun h => h.elim h1 h2), Crc.wrap64_id (by omega) (by omega)]
        exact ih
theorem width_f (n : Int) : Ev (fun k => pack_width.f k n) (Pk.wid n : Int) := by
  unfold pack_width.f Pk.wid
  by_cases h : n = 0
  · rw [if_pos h]
    exact Crc.Ev_ite_pos h (Ev.now 0)
  · rw [if_neg h]
    exact Crc.Ev_ite_neg h (width_l0 n 7 1 (by omega) (by omega))
theorem takeNum_l0 (w : Nat) (hw : w ≤ 8) (l : List Int) (hl : l.length = w) (hb : ∀ c ∈ l, 0 ≤ c ∧ c < 256) :
    ∀ (d i : Nat) (x : Int), i + d = w → (0 < i → Pk.Fits i x) → (i = 0 → x = 0) → (0 < i → (l.drop i).foldl (fun x d => x * 256 + d) x = Pk.val l) →
    Ev (fun k => pack_TakeNumber.l0 k (w : Int) x l (l.length : Int) (i : Int)) (if Pk.wid (Pk.val l) = w then (Pk.val l, 1 + (w : Int), 0) else (0, 0, 2))
  | 0, i, x, hi, hf, hz, hv => by
    have hx : x = Pk.val l := by
      rcases Nat.eq_zero_or_pos i with h0 | h0
      · have : l = [] := List.eq_nil_of_length_eq_zero (by omega)
        rw [hz h0, this]
        rfl
      · have := hv h0
        rwa [List.drop_of_length_le (by omega)] at this
    subst hx
    refine Ev.step (fun k => by rw [pack_TakeNumber.l0, if_neg (by omega)]) (Ev.bind (width_f _) ?_)
    by_cases h : Pk.wid (Pk.val l) = w
    · rw [if_pos h]
      refine Crc.Ev_ite_pos (by omega) (Crc.Ev_val ?_)
      rw [Crc.wrap64_id (by omega) (by omega)]
    · rw [if_neg h]
      exact Crc.Ev_ite_neg (by omega) (Ev.now _)
  | d + 1, i, x, hi, hf, hz, hv => by
    have hlt : i < l.length := by omega
    have hrd : rd l (i : Int) = l[i] := by simp [rd, List.getD_eq_getElem?_getD, List.getElem?_eq_getElem hlt]
    have hc := hb l[i] (List.getElem_mem hlt)
    refine Ev.step (fun k => by rw [pack_TakeNumber.l0, if_pos (by omega), if_pos (by omega), if_pos (by omega), hrd]) ?_
    have hw1 : wrap64 ((i : Int) + 1) = ((i + 1 : Nat) : Int) := by rw [Crc.wrap64_id (by omega) (by omega)]; omega
    by_cases h0 : i = 0
    · subst h0
      refine Crc.Ev_ite_pos rfl ?_
      rw [hw1, Pk.i8_wrap _ hc.1 hc.2, Crc.wrap64_id (by unfold Pk.i8; split <;> omega) (by unfold Pk.i8; split <;> omega)]
      refine takeNum_l0 w hw l hl hb d 1 _ (by omega) (fun _ => Pk.fits_i8 _ hc.1 hc.2) (by omega) (fun _ => ?_)
      cases l with
      | nil => cases hlt
      | cons c l => rfl
    · refine Crc.Ev_ite_neg (by omega) ?_
      have hfi := hf (by omega)
      have hr := Pk.fits_range hfi (by omega)
      have hr1 := Pk.fits_range (Pk.fits_snoc' i x 0 (by omega) hfi (by omega) (by omega)) (by omega)
      rw [hw1, Crc.wrap64_id (n := l[i]) (by omega) (by omega), Crc.wrap64_id (n := x * 256) (by omega) (by omega), Pk.or_byte x _ hc.1 hc.2 ⟨by omega, by omega⟩]
      refine takeNum_l0 w hw l hl hb d (i + 1) _ (by omega) (fun _ => Pk.fits_snoc' i x _ (by omega) hfi hc.1 hc.2) (by omega) (fun _ => ?_)
      have := hv (by omega)
      rw [List.drop_eq_getElem_cons hlt, List.foldl_cons] at this
      exact this
theorem takeNum_f (l : List Int) (hl : l.length ≤ 140737488355328) (hb : ∀ c ∈ l, 0 ≤ c ∧ c < 256) : Ev (fun k => pack_TakeNumber.f k l) (Pk.take l) := by
  unfold pack_TakeNumber.f
  cases l with
  | nil => exact Crc.Ev_ite_pos rfl (Ev.now _)
  | cons w l =>
    have hw := hb w (List.mem_cons_self ..)
    have hrd : rd (w :: l) 0 = w := rfl
    rw [hrd, Crc.wrap64_id (n := w) (by omega) (by omega), Crc.wrap64_id (n := 1 + w) (by omega) (by omega)]
    simp only [List.length_cons] at hl ⊢
    unfold Pk.take
    simp only
    refine Crc.Ev_ite_neg (by omega) (Crc.Ev_ite_pos (by omega) ?_)
    by_cases h8 : 8 < w
    · rw [if_pos h8]
      exact Crc.Ev_ite_pos h8 (Ev.now _)
    · rw [if_neg h8]
      refine Crc.Ev_ite_neg h8 ?_
      by_cases hs : (l.length : Int) < w
      · rw [if_pos hs]
        exact Crc.Ev_ite_pos (by omega) (Ev.now _)
      · rw [if_neg hs]
        refine Crc.Ev_ite_neg (by omega) (Crc.Ev_ite_pos (by omega) (Crc.Ev_ite_pos (by omega) ?_))
        obtain ⟨v, rfl⟩ := Int.eq_ofNat_of_zero_le hw.1
        have hcut : ((((v : Nat) : Int) :: l).take ((1 + (v : Int)) : Int).toNat).drop 1 = l.take v := by
          rw [show ((1 + (v : Int)) : Int).toNat = v + 1 from by omega]
          rfl
        rw [hcut, Int.toNat_natCast]
        exact takeNum_l0 v (by omega) (l.take v) (by rw [List.length_take]; omega) (fun c h => hb c (List.mem_cons_of_mem _ (List.mem_of_mem_take h))) v 0 0 (by omega) (by omega) (fun _ => rfl) (by omega)

theorem takeText_f (l : List Int) (hl : l.length ≤ 140737488355328) (hb : ∀ c ∈ l, 0 ≤ c ∧ c < 256) : Ev (fun k => pack_TakeText.f k l) (Pk.takeText l) := by
  unfold pack_TakeText.f Pk.takeText
  refine Ev.bind (takeNum_f l hl hb) ?_
  have hk := Pk.take_ok l hb
  generalize Pk.take l = t at *
  obtain ⟨n, k, e⟩ := t
  simp only at hk ⊢
  by_cases h0 : e = 0
  · simp only [if_pos h0]
    obtain ⟨k1, k2, k3⟩ := hk h0
    rw [Crc.wrap64_id (n := (l.length : Int) - k) (by omega) (by omega)]
    by_cases h1 : n < 0
    · simp only [if_pos h1]
      exact Ev.now _
    · simp only [if_neg h1]
      by_cases h2 : n > (l.length : Int) - k
      · simp only [if_pos h2]
        exact Ev.now _
      · simp only [if_neg h2]
        rw [Crc.wrap64_id (n := k + n) (by omega) (by omega)]
        exact Crc.Ev_ite_pos (by omega) (Crc.Ev_ite_pos (by omega) (Crc.Ev_ite_pos (by omega) (Ev.now _)))
  · simp only [if_neg h0]
    exact Ev.now _

theorem least_l1 (n : Int) : ∀ (j : Nat) (acc : List Int), acc.length + j ≤ 8 → Ev (fun k => tumbrelref01_least.l1 k n acc ((j : Int) - 1)) (acc ++ Pk.be j n)
  | 0, acc, _ => by
    refine Ev.step (fun k => by rw [tumbrelref01_least.l1, if_neg (by omega)]) (Crc.Ev_val (by simp [Pk.be]))
  | j + 1, acc, h => by
    have ih := least_l1 n j (acc ++ [(n / 2 ^ (8 * j)) % 256]) (by rw [List.length_append, List.length_singleton]; omega)
    have e : ((j + 1 : Nat) : Int) - 1 = (j : Int) := by omega
    rw [e]
    refine Ev.step (fun k => by rw [tumbrelref01_least.l1, if_pos (by omega), Crc.wrap64_id (n := 8 * (j : Int)) (by omega) (by omega), Pk.u64_id (by omega) (by omega), if_pos (by omega), if_pos (by omega), Pk.shr_byte n j (by omega), Crc.wrap64_id (n := (j : Int) - 1) (by omega) (by omega)]) ?_
    rw [List.append_assoc] at ih
    exact ih
theorem least_j1 (n : Int) (w : Nat) (hw : w ≤ 8) : Ev (fun k => tumbrelref01_least.j1 k n (w : Int)) (Pk.be w n) := by
  refine Ev.step (fun k => by rw [tumbrelref01_least.j1, Crc.wrap64_id (by omega) (by omega)]) ?_
  exact least_l1 n w [] (by simpa using hw)
theorem least_l0 (n : Int) : ∀ (d w : Nat), w + d = 8 → 0 < w → Ev (fun k => tumbrelref01_least.l0 k n (w : Int)) (Pk.be (Pk.widLoop d w n) n)
  | 0, w, hw, _ => by
    refine Ev.step (fun k => by rw [tumbrelref01_least.l0, if_neg (by omega)]) (least_j1 n w (by omega))
  | d + 1, w, hw, h0 => by
    have ih := least_l0 n d (w + 1) (by omega) (by omega)
    refine Ev.step (fun k => by rw [tumbrelref01_least.l0, if_pos (by omega), Crc.wrap64_id (n := 8 * (w : Int)) (by omega) (by omega), Crc.wrap64_id (n := 8 * (w : Int) - 1) (by omega) (by omega), Pk.u64_id (by omega) (by omega), if_pos (by omega), Pk.shr_at n w (by omega) h0]) ?_
    unfold Pk.widLoop
    by_cases h1 : n / 2 ^ (8 * w - 1) = 0
    · rw [if_pos (Or.inl h1)]
      exact Crc.Ev_ite_pos h1 (least_j1 n w (by omega))
    · refine Crc.Ev_ite_neg h1 ?_
      by_cases h2 : n / 2 ^ (8 * w - 1) = -1
      · rw [if_pos (Or.inr h2)]
        exact Crc.Ev_ite_pos h2 (least_j1 n w (by omega))
      · refine Crc.Ev_ite_neg h2 ?_
        rw [if_neg (fun h => h.elim h1 h2), Crc.wrap64_id (by omega) (by omega)]
        exact ih
theorem least_f (n : Int) : Ev (fun k => tumbrelref01_least.f k n) (Pk.be (Pk.wid n) n) := by
  unfold tumbrelref01_least.f Pk.wid
  by_cases h : n = 0
  · rw [if_pos h]
    exact Crc.Ev_ite_pos h (Ev.now [])
  · rw [if_neg h]
    exact Crc.Ev_ite_neg h (least_l0 n 7 1 (by omega) (by omega))
theorem refNumber_f (n : Int) : Ev (fun k => tumbrelref01_Number.f k n) (Pk.number n) := by
  have hw := Pk.wid_le n
  unfold tumbrelref01_Number.f
  refine Ev.bind (least_f n) (Crc.Ev_let ?_)
  rw [Pk.be_length]
  refine Crc.Ev_ite_pos (by simp; omega) (Crc.Ev_val ?_)
  rw [Int.emod_eq_of_lt (by omega) (by omega)]
  rfl

theorem rdL1_at (l : List (List Int)) (i : Nat) (h : i < l.length) : rd_L1 l (i : Int) = l[i] := by
  simp [rd_L1, List.getD_eq_getElem?_getD, List.getElem?_eq_getElem h]
theorem concat_l1 (l : List (List Int)) : ∀ (d i : Nat) (acc : List Int), i + d = l.length → acc.length + Pk.total (l.drop i) < 140737488355328 → l.length < 1000000 →
    Ev (fun k => slices_Concat_byte_byte.l1 k acc l (l.length : Int) (i : Int)) (acc ++ (l.drop i).flatten)
  | 0, i, acc, hi, _, _ => by
    refine Ev.step (fun k => by rw [slices_Concat_byte_byte.l1, if_neg (by omega)]) (Crc.Ev_val ?_)
    rw [List.drop_of_length_le (by omega)]
    simp
  | d + 1, i, acc, hi, ht, hl => by
    have hd : l.drop i = l[i] :: l.drop (i + 1) := List.drop_eq_getElem_cons (by omega)
    rw [hd, Pk.total_cons] at ht
    have ih := concat_l1 l d (i + 1) (acc ++ l[i]) (by omega) (by rw [List.length_append]; omega) hl
    rw [hd, List.flatten_cons, ← List.append_assoc]
    refine Ev.step (fun k => by rw [slices_Concat_byte_byte.l1, if_pos (by omega), if_pos (by omega), if_pos (by omega), rdL1_at l i (by omega), if_pos (by omega), Crc.wrap64_id (by omega) (by omega)]; rfl) ih
theorem concat_l0 (l : List (List Int)) (hl : l.length < 1000000) (hall : Pk.total l < 140737488355328) : ∀ (d i s : Nat), i + d = l.length → s + Pk.total (l.drop i) = Pk.total l →
    Ev (fun k => slices_Concat_byte_byte.l0 k l (s : Int) l (l.length : Int) (i : Int)) l.flatten
  | 0, i, s, hi, hs => by
    have hc := concat_l1 l l.length 0 [] (by omega) (by simpa using hall) hl
    rw [List.drop_zero, List.nil_append] at hc
    refine Ev.step (fun k => by rw [slices_Concat_byte_byte.l0, if_neg (by omega), if_pos (by omega), if_pos (by omega)]; rfl) hc
  | d + 1, i, s, hi, hs => by
    have hd : l.drop i = l[i] :: l.drop (i + 1) := List.drop_eq_getElem_cons (by omega)
    rw [hd, Pk.total_cons] at hs
    have ih := concat_l0 l hl hall d (i + 1) (s + l[i].length) (by omega) (by omega)
    have e : wrap64 ((s : Int) + (l[i].length : Int)) = ((s + l[i].length : Nat) : Int) := by rw [Crc.wrap64_id (by omega) (by omega)]; omega
    refine Ev.step (fun k => by rw [slices_Concat_byte_byte.l0, if_pos (by omega), if_pos (by omega), if_pos (by omega), rdL1_at l i (by omega), e, if_neg (by omega), Crc.wrap64_id (n := (i : Int) + 1) (by omega) (by omega)]; rfl) ih
theorem number_l0 (n : Int) : ∀ (j : Nat) (acc : List Int), j ≤ 8 → acc.length + j < 140737488355328 → Ev (fun k => pack_Number.l0 k n ((j : Int) - 1) acc) (acc ++ Pk.be j n)
  | 0, acc, _, _ => by
    refine Ev.step (fun k => by rw [pack_Number.l0, if_neg (by omega)]) (Crc.Ev_val (by simp [Pk.be]))
  | j + 1, acc, h8, h => by
    have ih := number_l0 n j (acc ++ [(n / 2 ^ (8 * j)) % 256]) (by omega) (by rw [List.length_append, List.length_singleton]; omega)
    have e : ((j + 1 : Nat) : Int) - 1 = (j : Int) := by omega
    rw [e]
    refine Ev.step (fun k => by rw [pack_Number.l0, if_pos (by omega), Crc.wrap64_id (n := 8 * (j : Int)) (by omega) (by omega), if_pos (by omega), if_pos (by omega), Pk.shr_byte n j (by omega), Crc.wrap64_id (n := (j : Int) - 1) (by omega) (by omega)]) ?_
    rw [List.append_assoc] at ih
    exact ih
theorem number_f (b : List Int) (n : Int) (hb : b.length + 16 ≤ 140737488355328) : Ev (fun k => pack_Number.f k b n) (b ++ Pk.number n) := by
  have hw := Pk.wid_le n
  unfold pack_Number.f
  refine Ev.bind (width_f n) ?_
  rw [Int.emod_eq_of_lt (by omega) (by omega)]
  have hc := concat_l0 [b, [(Pk.wid n : Int)]] (by simp) (by simp [Pk.total]; omega) 2 0 0 (by simp) (by simp)
  refine Ev.bind (a := b ++ [(Pk.wid n : Int)]) (by rw [show [b, [(Pk.wid n : Int)]].flatten = b ++ [(Pk.wid n : Int)] from by simp] at hc; exact hc) ?_
  rw [Crc.wrap64_id (by omega) (by omega)]
  have hn := number_l0 n (Pk.wid n) (b ++ [(Pk.wid n : Int)]) hw (by rw [List.length_append, List.length_singleton]; omega)
  rw [List.append_assoc] at hn
  exact hn

theorem number_length (n : Int) : (Pk.number n).length ≤ 9 := by
  have hw := Pk.wid_le n
  rw [Pk.number, List.length_cons, Pk.be_length]
  omega
theorem text_f (b : List Int) (s : ByteArray) (h : b.length + s.size + 100 ≤ 140737488355328) : Ev (fun k => pack_Text.f k b s) (b ++ Pk.text s) := by
  have hn := number_length (s.size : Int)
  unfold pack_Text.f
  refine Ev.bind (number_f b (s.size : Int) (by omega)) (Crc.Ev_ite_pos (by rw [List.length_append]; omega) (Crc.Ev_val ?_))
  rw [List.append_assoc]
  rfl

theorem refText_f (s : ByteArray) (h : s.size + 100 ≤ 140737488355328) : Ev (fun k => tumbrelref01_Text.f k s) (Pk.text s) := by
  have hw := Pk.wid_le (s.size : Int)
  unfold tumbrelref01_Text.f
  refine Ev.bind (refNumber_f (s.size : Int)) (Crc.Ev_ite_pos (by rw [Pk.number, List.length_cons, Pk.be_length]; omega) (Ev.now _))

theorem wid_fits (n : Int) (h0 : -9223372036854775808 ≤ n) (h1 : n ≤ 9223372036854775807) : (Pk.wid n = 0 ∧ n = 0) ∨ ∃ k, Pk.wid n = k + 1 ∧ Pk.Fits (k + 1) n := by
  have key : ∀ (d w : Nat), w + d = 8 → 0 < w → ∃ k, Pk.widLoop d w n = k + 1 ∧ Pk.Fits (k + 1) n := by
    intro d
    induction d with
    | zero =>
      intro w hw _
      refine ⟨7, by simp only [Pk.widLoop]; omega, ?_⟩
      rw [Pk.fits_iff]
      have : (2 : Int) ^ (8 * 7) = 72057594037927936 := by decide
      omega
    | succ d ih =>
      intro w hw hw0
      unfold Pk.widLoop
      split
      · rename_i h
        obtain ⟨v, rfl⟩ : ∃ v, w = v + 1 := ⟨w - 1, by omega⟩
        refine ⟨v, rfl, ?_⟩
        rw [Pk.fits_iff]
        have e : (2 : Int) ^ (8 * (v + 1) - 1) = 128 * 2 ^ (8 * v) := by
          rw [show 8 * (v + 1) - 1 = 8 * v + 7 from by omega, Int.pow_add]
          omega
        rw [e] at h
        have hp : (0 : Int) < 2 ^ (8 * v) := Int.pow_pos (by decide)
        generalize (2 : Int) ^ (8 * v) = p at *
        have hd := Int.emod_add_mul_ediv n (128 * p)
        have hm0 := Int.emod_nonneg n (show (128 * p) ≠ 0 by omega)
        have hm1 := Int.emod_lt_of_pos n (show 0 < 128 * p by omega)
        rcases h with h | h
        · rw [h] at hd
          simp only [Int.mul_zero] at hd
          omega
        · rw [h] at hd
          simp only [Int.mul_neg, Int.mul_one] at hd
          omega
      · exact ih (w + 1) (by omega) (by omega)
  unfold Pk.wid
  by_cases h : n = 0
  · exact Or.inl ⟨if_pos h, h⟩
  · rw [if_neg h]
    exact Or.inr (key 7 1 (by omega) (by omega))
theorem val_number (n : Int) (h0 : -9223372036854775808 ≤ n) (h1 : n ≤ 9223372036854775807) : Pk.val (Pk.be (Pk.wid n) n) = n := by
  rcases wid_fits n h0 h1 with ⟨h, rfl⟩ | ⟨k, h, hf⟩
  · rfl
  · rw [h]
    exact Pk.val_be k n hf
theorem take_number (n : Int) (h0 : -9223372036854775808 ≤ n) (h1 : n ≤ 9223372036854775807) (b : List Int) : Pk.take (Pk.number n ++ b) = (n, ((Pk.number n).length : Int), 0) := by
  have hw := Pk.wid_le n
  have hl : ((Pk.number n).length : Int) = 1 + (Pk.wid n : Int) := by rw [Pk.number, List.length_cons, Pk.be_length]; omega
  rw [hl]
  show Pk.take ((Pk.wid n : Int) :: (Pk.be (Pk.wid n) n ++ b)) = _
  unfold Pk.take
  simp only
  have ht : (Pk.be (Pk.wid n) n ++ b).take (Pk.wid n : Int).toNat = Pk.be (Pk.wid n) n := by
    rw [Int.toNat_natCast, List.take_append_of_le_length (by rw [Pk.be_length]; omega), List.take_of_length_le (by rw [Pk.be_length]; omega)]
  rw [if_neg (by omega), if_neg (by rw [List.length_append, Pk.be_length]; omega), ht, val_number n h0 h1, if_pos (by omega)]
theorem take_short (n : Int) (c : Nat) (hc : c < (Pk.number n).length) : (Pk.take ((Pk.number n).take c)).2.2 = 5 := by
  have hw := Pk.wid_le n
  cases c with
  | zero => rfl
  | succ c =>
    rw [Pk.number, List.length_cons, Pk.be_length] at hc
    show (Pk.take ((Pk.wid n : Int) :: (Pk.be (Pk.wid n) n).take c)).2.2 = 5
    unfold Pk.take
    simp only
    rw [if_neg (by omega), if_pos (by rw [List.length_take, Pk.be_length]; omega)]
theorem str_back (s : ByteArray) : strOfNums (bytesOf s) = s := by
  apply ByteArray.ext
  apply Array.ext'
  unfold strOfNums bytesOf
  simp only [List.map_map]
  conv => rhs; rw [← List.map_id s.data.toList]
  apply List.map_congr_left
  intro b _
  simp
theorem takeText_text (s : ByteArray) (hs : s.size ≤ 1048576) (b : List Int) : Pk.takeText (Pk.text s ++ b) = (s, ((Pk.text s).length : Int), 0) := by
  have ht : Pk.take (Pk.text s ++ b) = ((s.size : Int), ((Pk.number (s.size : Int)).length : Int), 0) := by
    rw [Pk.text, List.append_assoc]
    exact take_number _ (by omega) (by omega) _
  have hl : (Pk.text s).length = (Pk.number (s.size : Int)).length + s.size := by rw [Pk.text, List.length_append, bytesOf_length]
  have hcut : ((Pk.text s ++ b).take (((Pk.number (s.size : Int)).length : Int) + (s.size : Int)).toNat).drop (((Pk.number (s.size : Int)).length : Int)).toNat = bytesOf s := by
    rw [show ((((Pk.number (s.size : Int)).length : Int)) + (s.size : Int)).toNat = (Pk.text s).length from by omega, List.take_append_of_le_length (Nat.le_refl _), List.take_of_length_le (Nat.le_refl _), Int.toNat_natCast, Pk.text, List.drop_append_of_le_length (Nat.le_refl _), List.drop_length, List.nil_append]
  unfold Pk.takeText
  rw [ht]
  simp only
  rw [if_pos trivial, if_neg (by omega), if_neg (by rw [List.length_append]; omega), hcut, str_back]
  congr 2
  omega
theorem takeText_short (s : ByteArray) (hs : s.size ≤ 1048576) (c : Nat) (hc : c < (Pk.text s).length) : (Pk.takeText ((Pk.text s).take c)).2.2 = 5 := by
  have hl : (Pk.text s).length = (Pk.number (s.size : Int)).length + s.size := by rw [Pk.text, List.length_append, bytesOf_length]
  by_cases h : c < (Pk.number (s.size : Int)).length
  · have ht : (Pk.take ((Pk.text s).take c)).2.2 = 5 := by
      rw [Pk.text, List.take_append_of_le_length (by omega)]
      exact take_short _ c h
    unfold Pk.takeText
    rw [if_neg (by rw [ht]; decide)]
    exact ht
  · have hcut : (Pk.text s).take c = Pk.number (s.size : Int) ++ (bytesOf s).take (c - (Pk.number (s.size : Int)).length) := by
      rw [Pk.text, List.take_append, List.take_of_length_le (by omega)]
    rw [hcut]
    have ht := take_number (s.size : Int) (by omega) (by omega) ((bytesOf s).take (c - (Pk.number (s.size : Int)).length))
    unfold Pk.takeText
    rw [ht]
    simp only
    rw [if_pos trivial, if_neg (by omega), if_pos (by rw [List.length_append, List.length_take, bytesOf_length]; omega)]
theorem number_bytes (n : Int) : ∀ c ∈ Pk.number n, 0 ≤ c ∧ c < 256 := by
  intro c hc
  rcases List.mem_cons.1 hc with rfl | hc
  · have := Pk.wid_le n; omega
  · exact Pk.be_byte _ _ c hc
theorem bytesOf_bytes (s : ByteArray) : ∀ c ∈ bytesOf s, 0 ≤ c ∧ c < 256 := by
  intro c hc
  unfold bytesOf at hc
  obtain ⟨b, _, rfl⟩ := List.mem_map.1 hc
  have := b.toNat_lt
  omega
theorem append_bytes {a b : List Int} (ha : ∀ c ∈ a, 0 ≤ c ∧ c < 256) (hb : ∀ c ∈ b, 0 ≤ c ∧ c < 256) : ∀ c ∈ a ++ b, 0 ≤ c ∧ c < 256 := fun c hc => (List.mem_append.1 hc).elim (ha c) (hb c)
theorem text_bytes (s : ByteArray) : ∀ c ∈ Pk.text s, 0 ≤ c ∧ c < 256 := append_bytes (number_bytes _) (bytesOf_bytes s)

abbrev T := Bool × Int × ByteArray
/-- The item ahead, and how many bytes it has. -/
def next : List Int → Option (T × Int)
  | [] => none
  | c :: t => if c = 1 then (if (Pk.take t).2.2 = 0 then some ((false, (Pk.take t).1, (⟨#[]⟩ : ByteArray)), 1 + (Pk.take t).2.1) else none)
    else if c = 2 then (if (Pk.takeText t).2.2 = 0 then some ((true, 0, (Pk.takeText t).1), 1 + (Pk.takeText t).2.1) else none) else none
def spec : Nat → List Int → List T → List T × Int
  | 0, b, acc => if b = [] then (acc, 0) else ([], 2)
  | m + 1, b, acc => match next b with
    | none => ([], 2)
    | some x => spec m (b.drop x.2.toNat) (acc ++ [x.1])
def read (l : List Int) : List T × Int := if (Pk.take l).2.2 = 0 ∧ 0 ≤ (Pk.take l).1 ∧ (Pk.take l).1 ≤ 4000 then spec (Pk.take l).1.toNat (l.drop (Pk.take l).2.1.toNat) [] else ([], 2)
theorem takeText_ok (l : List Int) (hb : ∀ c ∈ l, 0 ≤ c ∧ c < 256) : (Pk.takeText l).2.2 = 0 → 1 ≤ (Pk.takeText l).2.1 ∧ (Pk.takeText l).2.1 ≤ (l.length : Int) := by
  have hk := Pk.take_ok l hb
  unfold Pk.takeText
  split
  · rename_i h0
    have := hk h0
    split
    · intro h; simp at h
    · split
      · intro h; simp at h
      · intro _
        constructor <;> dsimp only <;> omega
  · rename_i h0
    intro h
    exact absurd h h0
theorem dropBytes {l : List Int} (hb : ∀ c ∈ l, 0 ≤ c ∧ c < 256) (n : Nat) : ∀ c ∈ l.drop n, 0 ≤ c ∧ c < 256 := fun c h => hb c (List.mem_of_mem_drop h)

def mk52 (x : T) : S52 := ⟨x.1, x.2.1, x.2.2⟩
theorem read_l0 (n : Nat) (hn : n ≤ 4000) : ∀ (m : Nat) (b : List Int) (acc : List T), acc.length + m = n → b.length ≤ 140737488355328 → (∀ c ∈ b, 0 ≤ c ∧ c < 256) →
    Ev (fun k => pack_Read.l0 k b (n : Int) (acc.map mk52)) ((spec m b acc).1.map mk52, (spec m b acc).2) := by
  intro m
  induction m with
  | zero =>
    intro b acc hm hl hb
    have hlen : (((acc.map mk52).length : Nat) : Int) = (n : Int) := by rw [List.length_map]; omega
    cases b with
    | nil => exact Ev.step (fun k => by rw [pack_Read.l0, if_neg (by simp), if_pos hlen]; rfl) (Ev.now _)
    | cons c t =>
      have hs : spec 0 (c :: t) acc = ([], 2) := rfl
      rw [hs]
      have hlt : t.length ≤ 140737488355328 := by rw [List.length_cons] at hl; omega
      have hbt : ∀ x ∈ t, 0 ≤ x ∧ x < 256 := fun x h => hb x (List.mem_cons_of_mem _ h)
      refine Ev.step (fun k => by rw [pack_Read.l0, if_pos (by first | (simp; done) | (simp; omega)), if_pos (by first | (simp; done) | (simp; omega)), show rd (c :: t) 0 = c from rfl]) ?_
      by_cases h1 : c = 1
      · refine Crc.Ev_ite_pos h1 (Crc.Ev_ite_pos (by first | (simp; done) | (simp; omega)) (Ev.bind (takeNum_f t hlt hbt) ?_))
        by_cases h0 : (Pk.take t).2.2 = 0
        · exact Crc.Ev_ite_pos h0 (Crc.Ev_ite_pos hlen (Ev.now _))
        · exact Crc.Ev_ite_neg h0 (Ev.now _)
      · refine Crc.Ev_ite_neg h1 ?_
        by_cases h2 : c = 2
        · refine Crc.Ev_ite_pos h2 (Crc.Ev_ite_pos (by first | (simp; done) | (simp; omega)) (Ev.bind (takeText_f t hlt hbt) ?_))
          by_cases h0 : (Pk.takeText t).2.2 = 0
          · exact Crc.Ev_ite_pos h0 (Crc.Ev_ite_pos hlen (Ev.now _))
          · exact Crc.Ev_ite_neg h0 (Ev.now _)
        · exact Crc.Ev_ite_neg h2 (Ev.now _)
  | succ m ih =>
    intro b acc hm hl hb
    have hlen : ¬ (((acc.map mk52).length : Nat) : Int) = (n : Int) := by rw [List.length_map]; omega
    cases b with
    | nil => exact Ev.step (fun k => by rw [pack_Read.l0, if_neg (by simp), if_neg hlen]; rfl) (Ev.now _)
    | cons c t =>
      have hlt : t.length ≤ 140737488355328 := by rw [List.length_cons] at hl; omega
      have hbt : ∀ x ∈ t, 0 ≤ x ∧ x < 256 := fun x h => hb x (List.mem_cons_of_mem _ h)
      refine Ev.step (fun k => by rw [pack_Read.l0, if_pos (by first | (simp; done) | (simp; omega)), if_pos (by first | (simp; done) | (simp; omega)), show rd (c :: t) 0 = c from rfl]) ?_
      by_cases h1 : c = 1
      · refine Crc.Ev_ite_pos h1 (Crc.Ev_ite_pos (by first | (simp; done) | (simp; omega)) (Ev.bind (takeNum_f t hlt hbt) ?_))
        by_cases h0 : (Pk.take t).2.2 = 0
        · have hk := Pk.take_ok t hbt h0
          have hs : spec (m + 1) (c :: t) acc = spec m ((c :: t).drop (1 + (Pk.take t).2.1).toNat) (acc ++ [(false, (Pk.take t).1, (⟨#[]⟩ : ByteArray))]) := by
            simp only [spec, next, if_pos h1, if_pos h0]
          rw [hs]
          refine Crc.Ev_ite_pos h0 (Crc.Ev_ite_neg hlen (Crc.Ev_ite_pos (by rw [List.length_map]; omega) ?_))
          rw [Crc.wrap64_id (by omega) (by omega)]
          refine Crc.Ev_ite_pos (by omega) (Crc.Ev_ite_pos (by rw [List.length_cons]; omega) ?_)
          have e := ih ((c :: t).drop (1 + (Pk.take t).2.1).toNat) (acc ++ [(false, (Pk.take t).1, (⟨#[]⟩ : ByteArray))]) (by rw [List.length_append, List.length_singleton]; omega) (by rw [List.length_drop]; omega) (dropBytes hb _)
          rw [List.map_append] at e
          exact e
        · have hs : spec (m + 1) (c :: t) acc = ([], 2) := by simp only [spec, next, if_pos h1, if_neg h0]
          rw [hs]
          exact Crc.Ev_ite_neg h0 (Ev.now _)
      · refine Crc.Ev_ite_neg h1 ?_
        by_cases h2 : c = 2
        · refine Crc.Ev_ite_pos h2 (Crc.Ev_ite_pos (by first | (simp; done) | (simp; omega)) (Ev.bind (takeText_f t hlt hbt) ?_))
          by_cases h0 : (Pk.takeText t).2.2 = 0
          · have hk := takeText_ok t hbt h0
            have hs : spec (m + 1) (c :: t) acc = spec m ((c :: t).drop (1 + (Pk.takeText t).2.1).toNat) (acc ++ [(true, 0, (Pk.takeText t).1)]) := by
              simp only [spec, next, if_neg h1, if_pos h2, if_pos h0]
            rw [hs]
            refine Crc.Ev_ite_pos h0 (Crc.Ev_ite_neg hlen (Crc.Ev_ite_pos (by rw [List.length_map]; omega) ?_))
            rw [Crc.wrap64_id (by omega) (by omega)]
            refine Crc.Ev_ite_pos (by omega) (Crc.Ev_ite_pos (by rw [List.length_cons]; omega) ?_)
            have e := ih ((c :: t).drop (1 + (Pk.takeText t).2.1).toNat) (acc ++ [(true, 0, (Pk.takeText t).1)]) (by rw [List.length_append, List.length_singleton]; omega) (by rw [List.length_drop]; omega) (dropBytes hb _)
            rw [List.map_append] at e
            exact e
          · have hs : spec (m + 1) (c :: t) acc = ([], 2) := by simp only [spec, next, if_neg h1, if_pos h2, if_neg h0]
            rw [hs]
            exact Crc.Ev_ite_neg h0 (Ev.now _)
        · have hs : spec (m + 1) (c :: t) acc = ([], 2) := by simp only [spec, next, if_neg h1, if_neg h2]
          rw [hs]
          exact Crc.Ev_ite_neg h2 (Ev.now _)
theorem read_j0 (l : List Int) (x5 : Int) (n : Int) : Ev (fun k => pack_Read.j0 k l n x5 true) ([], 2) := Ev.step (fun k => by rw [pack_Read.j0, if_pos rfl]) (Ev.now _)
theorem read_f (l : List Int) (hl : l.length ≤ 140737488355328) (hb : ∀ c ∈ l, 0 ≤ c ∧ c < 256) : Ev (fun k => pack_Read.f k l) ((read l).1.map mk52, (read l).2) := by
  unfold pack_Read.f
  refine Ev.bind (takeNum_f l hl hb) ?_
  by_cases h0 : (Pk.take l).2.2 = 0
  · refine Crc.Ev_ite_pos h0 ?_
    have hk := Pk.take_ok l hb h0
    by_cases h1 : (Pk.take l).1 < 0
    · have hr : read l = ([], 2) := by unfold read; exact if_neg (fun h => by omega)
      rw [hr]
      exact Crc.Ev_ite_pos h1 (read_j0 l _ _)
    · refine Crc.Ev_ite_neg h1 ?_
      by_cases h2 : (Pk.take l).1 > 4000
      · have hr : read l = ([], 2) := by unfold read; exact if_neg (fun h => by omega)
        rw [hr, decide_eq_true h2]
        exact read_j0 l _ _
      · have hr : read l = spec (Pk.take l).1.toNat (l.drop (Pk.take l).2.1.toNat) [] := by unfold read; exact if_pos ⟨h0, by omega, by omega⟩
        rw [hr, decide_eq_false h2]
        have e := read_l0 (Pk.take l).1.toNat (by omega) (Pk.take l).1.toNat (l.drop (Pk.take l).2.1.toNat) [] (by simp) (by rw [List.length_drop]; omega) (dropBytes hb _)
        rw [show (((Pk.take l).1.toNat : Nat) : Int) = (Pk.take l).1 from by omega] at e
        exact Ev.step (fun k => by rw [pack_Read.j0, if_neg (by decide), if_pos (by omega), if_pos (by omega), if_pos (by omega), if_pos (by omega)]; rfl) e
  · have hr : read l = ([], 2) := by unfold read; exact if_neg (fun h => h0 h.1)
    rw [hr]
    exact Crc.Ev_ite_neg h0 (read_j0 l _ _)

def mk64 (x : T) : S64 := ⟨x.1, x.2.1, x.2.2⟩
theorem same_l0 (l : List S64) (hl : l.length ≤ 4398046511104) : ∀ (d i : Nat), i + d = l.length → Ev (fun k => tumbrelref01_Same.l0 k l l (l.length : Int) (i : Int)) true
  | 0, i, h => Ev.step (fun k => by rw [tumbrelref01_Same.l0, if_neg (by omega)]) (Ev.now _)
  | d + 1, i, h => by
    refine Ev.step (fun k => by rw [tumbrelref01_Same.l0, if_pos (by omega), if_pos (by omega), if_pos (by omega), if_pos (by omega), if_neg (by simp), Crc.wrap64_id (by omega) (by omega)]) ?_
    exact same_l0 l hl d (i + 1) (by omega)
theorem same_f (l : List S64) (hl : l.length ≤ 4398046511104) : Ev (fun k => tumbrelref01_Same.f k l l) true := by
  unfold tumbrelref01_Same.f
  exact Crc.Ev_ite_pos rfl (same_l0 l hl l.length 0 (by omega))
theorem ours_l0 (l : List T) (hl : l.length ≤ 4000) : ∀ (d i : Nat), i + d = l.length → Ev (fun k => tumbrellaw01_ours.l0 k (l.map mk52) ((l.take i).map mk64) ((l.map mk52).length : Int) (i : Int)) (l.map mk64)
  | 0, i, h => by
    refine Ev.step (fun k => by rw [tumbrellaw01_ours.l0, if_neg (by rw [List.length_map]; omega)]) (Crc.Ev_val ?_)
    rw [List.take_of_length_le (by omega)]
  | d + 1, i, h => by
    have hi : i < l.length := by omega
    have hrd : rd_T52 (l.map mk52) (i : Int) = mk52 l[i] := by simp [rd_T52, List.getD_eq_getElem?_getD, List.getElem?_eq_getElem hi]
    refine Ev.step (fun k => by rw [tumbrellaw01_ours.l0, if_pos (by rw [List.length_map]; omega), if_pos (by omega), if_pos (by rw [List.length_map]; omega), if_pos (by rw [List.length_map, List.length_take]; omega), Crc.wrap64_id (by omega) (by omega), hrd]) ?_
    have e := ours_l0 l hl d (i + 1) (by omega)
    rw [List.take_succ_eq_append_getElem hi, List.map_append] at e
    exact e
theorem ours_f (l : List T) (hl : l.length ≤ 4000) : Ev (fun k => tumbrellaw01_ours.f k (l.map mk52)) (l.map mk64) := by
  unfold tumbrellaw01_ours.f
  exact ours_l0 l hl l.length 0 (by omega)
theorem spec_length : ∀ (m : Nat) (b : List Int) (acc : List T), (spec m b acc).1.length ≤ acc.length + m
  | 0, b, acc => by unfold spec; split <;> simp
  | m + 1, b, acc => by
    unfold spec
    split
    · simp
    · refine Nat.le_trans (spec_length m _ _) ?_
      rw [List.length_append, List.length_singleton]
      omega
theorem read_length (l : List Int) : (read l).1.length ≤ 4000 := by
  unfold read
  split
  · rename_i h
    refine Nat.le_trans (spec_length _ _ _) ?_
    simp only [List.length_nil]
    omega
  · simp

def bad (x : T) : Bool := if x.1 = true then !(x.2.1 == 0) else !(x.2.2.toList == ([] : List UInt8))
def encode (x : T) : List Int := if x.1 = true then 2 :: Pk.text x.2.2 else 1 :: Pk.number x.2.1
def tot (t : List T) : Nat := (t.map fun x => x.2.2.size + 10).sum
theorem tot_cons (x : T) (t : List T) : tot (x :: t) = x.2.2.size + 10 + tot t := by simp [tot]
def itemsBytes (t : List T) : List Int := Pk.number (t.length : Int) ++ (t.map encode).flatten
def items (t : List T) : List Int × Int := if t.any bad = true then ([], 1) else if (t.length : Int) > 4000 then ([], 4) else (itemsBytes t, 0)
theorem rd52_at (t : List T) (i : Nat) (h : i < t.length) : rd_T52 (t.map mk52) (i : Int) = mk52 t[i] := by simp [rd_T52, List.getD_eq_getElem?_getD, List.getElem?_eq_getElem h]
theorem rd64_at (t : List T) (i : Nat) (h : i < t.length) : rd_T64 (t.map mk64) (i : Int) = mk64 t[i] := by simp [rd_T64, List.getD_eq_getElem?_getD, List.getElem?_eq_getElem h]
theorem contains_l0 (t : List T) (ht : t.length ≤ 5000) : ∀ (d i : Nat), i + d = t.length → Ev (fun k => pack_Item_43.l0 k (t.map mk52) ((t.map mk52).length : Int) (i : Int)) ((t.drop i).any bad)
  | 0, i, h => by
    refine Ev.step (fun k => by rw [pack_Item_43.l0, if_neg (by rw [List.length_map]; omega)]) (Crc.Ev_val ?_)
    rw [List.drop_of_length_le (by omega)]
    rfl
  | d + 1, i, h => by
    have hi : i < t.length := by omega
    have ih := contains_l0 t ht d (i + 1) (by omega)
    refine Ev.step (fun k => by rw [pack_Item_43.l0, if_pos (by rw [List.length_map]; omega), if_pos (by omega), if_pos (by rw [List.length_map]; omega), rd52_at t i hi, Crc.wrap64_id (by omega) (by omega)]) ?_
    rw [List.drop_eq_getElem_cons hi, List.any_cons]
    generalize t[i] = x
    obtain ⟨b, n, s⟩ := x
    simp only [mk52]
    by_cases hb : b = true
    · subst hb
      refine Crc.Ev_ite_pos rfl ?_
      by_cases h0 : n = 0
      · subst h0
        rw [show bad (true, 0, s) = false from rfl, Bool.false_or]
        exact Crc.Ev_ite_pos rfl ih
      · refine Crc.Ev_ite_neg h0 (Crc.Ev_val ?_)
        rw [show bad (true, n, s) = true from by simp [bad, h0], Bool.true_or]
    · refine Crc.Ev_ite_neg hb ?_
      by_cases h0 : s.toList = []
      · rw [show bad (b, n, s) = false from by simp [bad, hb, h0], Bool.false_or]
        exact Crc.Ev_ite_pos h0 ih
      · refine Crc.Ev_ite_neg h0 (Crc.Ev_val ?_)
        rw [show bad (b, n, s) = true from by simp [bad, hb, h0], Bool.true_or]
theorem contains_f (t : List T) (ht : t.length ≤ 5000) : Ev (fun k => pack_Item_43.f k (t.map mk52)) (t.any bad) := by
  unfold pack_Item_43.f
  exact contains_l0 t ht t.length 0 (by omega)
theorem encode_length (x : T) : (encode x).length ≤ x.2.2.size + 10 := by
  unfold encode
  split
  · have := number_length (x.2.2.size : Int)
    rw [List.length_cons, Pk.text, List.length_append, bytesOf_length]
    omega
  · have := number_length x.2.1
    rw [List.length_cons]
    omega
theorem items_l0 (t : List T) (ht : t.length ≤ 5000) : ∀ (d i : Nat) (acc : List Int), i + d = t.length → acc.length + tot (t.drop i) ≤ 1000000000 → Ev (fun k => pack_Items.l0 k acc (t.map mk52) ((t.map mk52).length : Int) (i : Int)) (acc ++ ((t.drop i).map encode).flatten, 0)
  | 0, i, acc, h, _ => by
    refine Ev.step (fun k => by rw [pack_Items.l0, if_neg (by rw [List.length_map]; omega)]) (Crc.Ev_val ?_)
    rw [List.drop_of_length_le (by omega)]
    simp
  | d + 1, i, acc, h, hb => by
    have hi : i < t.length := by omega
    have e0 := List.drop_eq_getElem_cons hi
    have ih := items_l0 t ht d (i + 1) (acc ++ encode t[i]) (by omega) (by
      have := encode_length t[i]
      rw [e0, tot_cons] at hb
      rw [List.length_append]
      omega)
    rw [e0, tot_cons] at hb
    rw [e0, List.map_cons, List.flatten_cons, ← List.append_assoc]
    refine Ev.step (fun k => by rw [pack_Items.l0, if_pos (by rw [List.length_map]; omega), if_pos (by omega), if_pos (by rw [List.length_map]; omega), rd52_at t i hi, Crc.wrap64_id (by omega) (by omega)]) ?_
    have hs : t[i].2.2.size ≤ 1000000000 := by omega
    have hlen := encode_length t[i]
    have hlt : acc.length < 140737488355328 := by omega
    by_cases hc : t[i].1 = true
    · refine Crc.Ev_ite_pos hc (Crc.Ev_ite_pos hlt (Crc.Ev_let (Ev.bind (text_f [] t[i].2.2 (by rw [List.length_nil]; omega)) ?_)))
      have ee : encode t[i] = 2 :: Pk.text t[i].2.2 := if_pos hc
      rw [ee] at ih hlen
      rw [List.nil_append]
      refine Crc.Ev_ite_pos (by rw [List.length_append, List.length_singleton]; simp only [List.length_cons] at hlen; omega) ?_
      rw [List.append_assoc, ee]
      exact ih
    · refine Crc.Ev_ite_neg hc (Crc.Ev_ite_pos hlt (Crc.Ev_let (Ev.bind (number_f [] t[i].2.1 (by rw [List.length_nil]; omega)) ?_)))
      have ee : encode t[i] = 1 :: Pk.number t[i].2.1 := if_neg hc
      rw [ee] at ih hlen
      rw [List.nil_append]
      refine Crc.Ev_ite_pos (by rw [List.length_append, List.length_singleton]; simp only [List.length_cons] at hlen; omega) ?_
      rw [List.append_assoc, ee]
      exact ih
theorem items_f (t : List T) (ht : t.length ≤ 5000) (hb : tot t ≤ 100000000) : Ev (fun k => pack_Items.f k (t.map mk52)) (items t) := by
  unfold pack_Items.f items
  refine Ev.bind (contains_f t ht) ?_
  by_cases h1 : t.any bad = true
  · rw [if_pos h1]
    exact Crc.Ev_ite_pos h1 (Ev.now _)
  · rw [if_neg h1]
    refine Crc.Ev_ite_neg h1 ?_
    by_cases h2 : (t.length : Int) > 4000
    · rw [if_pos h2]
      exact Crc.Ev_ite_pos (by rw [List.length_map]; exact h2) (Ev.now _)
    · rw [if_neg h2]
      refine Crc.Ev_ite_neg (by rw [List.length_map]; exact h2) (Ev.bind (number_f [] ((t.map mk52).length : Int) (by simp)) ?_)
      have hn := number_length ((t.map mk52).length : Int)
      have := items_l0 t ht t.length 0 (Pk.number ((t.map mk52).length : Int)) (by omega) (by rw [List.drop_zero]; omega)
      rw [List.drop_zero] at this
      rw [List.nil_append]
      have e : itemsBytes t = Pk.number ((t.map mk52).length : Int) ++ (t.map encode).flatten := by rw [itemsBytes, List.length_map]
      rw [e]
      exact this
theorem refItems_l1 (t : List T) (ht : t.length ≤ 5000) : ∀ (d i : Nat) (acc : List Int), i + d = t.length → acc.length + tot (t.drop i) ≤ 1000000000 → Ev (fun k => tumbrelref01_Items.l1 k (t.map mk64) acc ((t.map mk64).length : Int) (i : Int)) (acc ++ ((t.drop i).map encode).flatten, 0)
  | 0, i, acc, h, _ => by
    refine Ev.step (fun k => by rw [tumbrelref01_Items.l1, if_neg (by rw [List.length_map]; omega)]) (Crc.Ev_val ?_)
    rw [List.drop_of_length_le (by omega)]
    simp
  | d + 1, i, acc, h, hb => by
    have hi : i < t.length := by omega
    have e0 := List.drop_eq_getElem_cons hi
    have ih := refItems_l1 t ht d (i + 1) (acc ++ encode t[i]) (by omega) (by
      have := encode_length t[i]
      rw [e0, tot_cons] at hb
      rw [List.length_append]
      omega)
    rw [e0, tot_cons] at hb
    rw [e0, List.map_cons, List.flatten_cons, ← List.append_assoc]
    refine Ev.step (fun k => by rw [tumbrelref01_Items.l1, if_pos (by rw [List.length_map]; omega), if_pos (by omega), if_pos (by rw [List.length_map]; omega), rd64_at t i hi, Crc.wrap64_id (by omega) (by omega)]) ?_
    have hs : t[i].2.2.size ≤ 1000000000 := by omega
    have hlen := encode_length t[i]
    have hlt : acc.length < 140737488355328 := by omega
    by_cases hc : t[i].1 = true
    · refine Crc.Ev_ite_pos hc (Crc.Ev_ite_pos hlt (Crc.Ev_let (Ev.bind (refText_f t[i].2.2 (by omega)) ?_)))
      have ee : encode t[i] = 2 :: Pk.text t[i].2.2 := if_pos hc
      rw [ee] at ih hlen
      refine Crc.Ev_ite_pos (by rw [List.length_append, List.length_singleton]; simp only [List.length_cons] at hlen; omega) ?_
      rw [List.append_assoc, ee]
      exact ih
    · refine Crc.Ev_ite_neg hc (Crc.Ev_ite_pos hlt (Crc.Ev_let (Ev.bind (refNumber_f t[i].2.1) ?_)))
      have ee : encode t[i] = 1 :: Pk.number t[i].2.1 := if_neg hc
      rw [ee] at ih hlen
      refine Crc.Ev_ite_pos (by rw [List.length_append, List.length_singleton]; simp only [List.length_cons] at hlen; omega) ?_
      rw [List.append_assoc, ee]
      exact ih
theorem refItems_l0 (t : List T) (ht : t.length ≤ 5000) (hb : tot t ≤ 100000000) : ∀ (d i : Nat), i + d = t.length → Ev (fun k => tumbrelref01_Items.l0 k (t.map mk64) ((t.map mk64).length : Int) (i : Int)) (if (t.drop i).any bad = true then ([], 1) else if (t.length : Int) > 4000 then ([], 4) else (itemsBytes t, 0))
  | 0, i, h => by
    refine Ev.step (fun k => by rw [tumbrelref01_Items.l0, if_neg (by rw [List.length_map]; omega)]) ?_
    rw [List.drop_of_length_le (by omega), List.any_nil, if_neg (by decide)]
    by_cases h2 : (t.length : Int) > 4000
    · rw [if_pos h2]
      exact Crc.Ev_ite_pos (by rw [List.length_map]; exact h2) (Ev.now _)
    · rw [if_neg h2]
      refine Crc.Ev_ite_neg (by rw [List.length_map]; exact h2) (Ev.bind (refNumber_f ((t.map mk64).length : Int)) ?_)
      have hn := number_length ((t.map mk64).length : Int)
      have := refItems_l1 t ht t.length 0 (Pk.number ((t.map mk64).length : Int)) (by omega) (by rw [List.drop_zero]; omega)
      rw [List.drop_zero] at this
      have e : itemsBytes t = Pk.number ((t.map mk64).length : Int) ++ (t.map encode).flatten := by rw [itemsBytes, List.length_map]
      rw [e]
      exact this
  | d + 1, i, h => by
    have hi : i < t.length := by omega
    have ih := refItems_l0 t ht hb d (i + 1) (by omega)
    refine Ev.step (fun k => by rw [tumbrelref01_Items.l0, if_pos (by rw [List.length_map]; omega), if_pos (by omega), if_pos (by rw [List.length_map]; omega), rd64_at t i hi, Crc.wrap64_id (by omega) (by omega)]) ?_
    rw [List.drop_eq_getElem_cons hi, List.any_cons]
    generalize t[i] = x
    obtain ⟨b, n, s⟩ := x
    simp only [mk64]
    by_cases hc : b = true
    · subst hc
      refine Crc.Ev_ite_pos rfl ?_
      by_cases h0 : n = 0
      · subst h0
        rw [show bad (true, 0, s) = false from rfl, Bool.false_or]
        exact Crc.Ev_ite_pos rfl ih
      · refine Crc.Ev_ite_neg h0 (Crc.Ev_val ?_)
        rw [show bad (true, n, s) = true from by simp [bad, h0], Bool.true_or, if_pos rfl]
    · refine Crc.Ev_ite_neg hc ?_
      by_cases h0 : s.toList = []
      · rw [show bad (b, n, s) = false from by simp [bad, hc, h0], Bool.false_or]
        exact Crc.Ev_ite_pos h0 ih
      · refine Crc.Ev_ite_neg h0 (Crc.Ev_val ?_)
        rw [show bad (b, n, s) = true from by simp [bad, hc, h0], Bool.true_or, if_pos rfl]
theorem refItems_f (t : List T) (ht : t.length ≤ 5000) (hb : tot t ≤ 100000000) : Ev (fun k => tumbrelref01_Items.f k (t.map mk64)) (items t) := by
  unfold tumbrelref01_Items.f
  exact refItems_l0 t ht hb t.length 0 (by omega)
theorem theirs_l0 (l : List T) (hl : l.length ≤ 5000) : ∀ (d i : Nat), i + d = l.length → Ev (fun k => tumbrellaw01_theirs.l0 k (l.map mk64) ((l.take i).map mk52) ((l.map mk64).length : Int) (i : Int)) (l.map mk52)
  | 0, i, h => by
    refine Ev.step (fun k => by rw [tumbrellaw01_theirs.l0, if_neg (by rw [List.length_map]; omega)]) (Crc.Ev_val ?_)
    rw [List.take_of_length_le (by omega)]
  | d + 1, i, h => by
    have hi : i < l.length := by omega
    refine Ev.step (fun k => by rw [tumbrellaw01_theirs.l0, if_pos (by rw [List.length_map]; omega), if_pos (by omega), if_pos (by rw [List.length_map]; omega), if_pos (by rw [List.length_map, List.length_take]; omega), Crc.wrap64_id (by omega) (by omega), rd64_at l i hi]) ?_
    have e := theirs_l0 l hl d (i + 1) (by omega)
    rw [List.take_succ_eq_append_getElem hi, List.map_append] at e
    exact e
theorem theirs_f (l : List T) (hl : l.length ≤ 5000) : Ev (fun k => tumbrellaw01_theirs.f k (l.map mk64)) (l.map mk52) := by
  unfold tumbrellaw01_theirs.f
  exact theirs_l0 l hl l.length 0 (by omega)
theorem next_encode (x : T) (hx : bad x = false) (hs : x.2.2.size ≤ 1048576) (hn : -9223372036854775808 ≤ x.2.1 ∧ x.2.1 ≤ 9223372036854775807) (rest : List Int) : next (encode x ++ rest) = some (x, ((encode x).length : Int)) := by
  obtain ⟨b, n, s⟩ := x
  unfold bad at hx
  unfold encode
  by_cases hb : b = true
  · subst hb
    simp only [if_true] at hx ⊢
    have h0 : n = 0 := by simpa using hx
    subst h0
    have ht := takeText_text s hs rest
    simp only [next, List.cons_append, if_neg (show ¬ (2 : Int) = 1 by decide), if_true, ht, List.length_cons]
    congr 2
    omega
  · have hb' : b = false := by cases b <;> simp_all
    subst hb'
    simp only [Bool.false_eq_true, if_false] at hx ⊢
    have h0 : s.toList = [] := by simpa using hx
    have hs0 : s = (⟨#[]⟩ : ByteArray) := by
      apply ByteArray.ext
      apply Array.ext'
      have := congrArg List.length h0
      rw [ByteArray.toList_eq] at h0
      exact h0
    subst hs0
    have ht := take_number n hn.1 hn.2 rest
    simp only [next, List.cons_append, if_true, ht, List.length_cons]
    congr 2
    omega
theorem spec_encode : ∀ (t : List T) (acc : List T), t.any bad = false → (∀ x ∈ t, x.2.2.size ≤ 1048576) → (∀ x ∈ t, -9223372036854775808 ≤ x.2.1 ∧ x.2.1 ≤ 9223372036854775807) → spec t.length (t.map encode).flatten acc = (acc ++ t, 0)
  | [], acc, _, _, _ => by simp [spec]
  | x :: t, acc, hb, hs, hn => by
    rw [List.any_cons, Bool.or_eq_false_iff] at hb
    have h1 := next_encode x hb.1 (hs x (List.mem_cons_self ..)) (hn x (List.mem_cons_self ..)) (t.map encode).flatten
    rw [List.length_cons, List.map_cons, List.flatten_cons]
    unfold spec
    rw [h1]
    simp only [Int.toNat_natCast, List.drop_left']
    rw [spec_encode t (acc ++ [x]) hb.2 (fun y hy => hs y (List.mem_cons_of_mem _ hy)) (fun y hy => hn y (List.mem_cons_of_mem _ hy)), List.append_assoc]
    rfl
theorem read_items (t : List T) (h4 : t.length ≤ 4000) (hb : t.any bad = false) (hs : ∀ x ∈ t, x.2.2.size ≤ 1048576) (hn : ∀ x ∈ t, -9223372036854775808 ≤ x.2.1 ∧ x.2.1 ≤ 9223372036854775807) : read (itemsBytes t) = (t, 0) := by
  have ht := take_number (t.length : Int) (by omega) (by omega) (t.map encode).flatten
  unfold read itemsBytes
  rw [ht]
  simp only
  rw [if_pos ⟨trivial, by omega, by omega⟩, Int.toNat_natCast, Int.toNat_natCast, List.drop_left' rfl, spec_encode t [] hb hs hn]
  rfl
theorem encode_bytes (x : T) : ∀ c ∈ encode x, 0 ≤ c ∧ c < 256 := by
  intro c hc
  unfold encode at hc
  split at hc
  · rcases List.mem_cons.1 hc with rfl | hc
    · omega
    · exact text_bytes _ c hc
  · rcases List.mem_cons.1 hc with rfl | hc
    · omega
    · exact number_bytes _ c hc
theorem items_bytes (t : List T) : ∀ c ∈ (items t).1, 0 ≤ c ∧ c < 256 := by
  unfold items
  split
  · intro c hc; cases hc
  · split
    · intro c hc; cases hc
    · refine append_bytes (number_bytes _) (fun c hc => ?_)
      obtain ⟨l, hl, hc⟩ := List.mem_flatten.1 hc
      obtain ⟨x, _, rfl⟩ := List.mem_map.1 hl
      exact encode_bytes x c hc
theorem flat_length : ∀ t : List T, (t.map encode).flatten.length ≤ tot t
  | [] => by simp
  | x :: t => by
    have h1 := encode_length x
    have h2 := flat_length t
    rw [List.map_cons, List.flatten_cons, List.length_append, tot_cons]
    omega
theorem items_length (t : List T) : (items t).1.length ≤ tot t + 9 := by
  unfold items
  split
  · simp
  · split
    · simp
    · have h1 := flat_length t
      have h2 := number_length (t.length : Int)
      simp only [itemsBytes, List.length_append]
      omega

def un64 (x : S64) : T := (x.f0, x.f1, x.f2)
theorem weight_tot : ∀ l : List S64, tot (l.map un64) ≤ (l.map fun x => x.f2.size + 4).sum + 6 * l.length
  | [] => by simp [tot]
  | x :: l => by
    have := weight_tot l
    rw [List.map_cons, tot_cons, List.map_cons, List.sum_cons, List.length_cons]
    simp only [un64] at this ⊢
    omega
theorem weight_mem : ∀ (l : List S64), ∀ x ∈ l, x.f2.size + 4 ≤ (l.map fun x => x.f2.size + 4).sum
  | y :: l, x, h => by
    rw [List.map_cons, List.sum_cons]
    rcases List.mem_cons.1 h with rfl | h
    · omega
    · have := weight_mem l x h
      omega
theorem PackItems (l0 : List S64) (hw : ∀ x ∈ l0, (Lit.int .i64 x.f1).wf = true) (hb : (l0.map fun x => x.f2.size + 4).sum ≤ 1048576) : ∃ k, tumbrellaw01_PackItems.f k l0 = some true := by
  obtain ⟨t, ht⟩ : ∃ t : List T, t = l0.map un64 := ⟨_, rfl⟩
  have hl0 : t.map mk64 = l0 := by
    rw [ht, List.map_map]
    conv => rhs; rw [← List.map_id l0]
    exact List.map_congr_left fun x _ => rfl
  have hlen : t.length = l0.length := by rw [ht, List.length_map]
  refine Ev.rounds (g := fun k => tumbrellaw01_PackItems.f k l0) ?_
  unfold tumbrellaw01_PackItems.f
  by_cases h5 : (l0.length : Int) > 5000
  · refine Crc.Ev_ite_pos h5 (Ev.bind (number_f [] 1 (by simp)) (Crc.Ev_val ?_))
    decide +kernel
  · have htot : tot t ≤ 100000000 := by
      have := weight_tot l0
      rw [← ht] at this
      omega
    have hs : ∀ x ∈ t, x.2.2.size ≤ 1048576 := by
      intro x hx
      rw [ht] at hx
      obtain ⟨y, hy, rfl⟩ := List.mem_map.1 hx
      have := weight_mem l0 y hy
      simp only [un64]
      omega
    have hn : ∀ x ∈ t, -9223372036854775808 ≤ x.2.1 ∧ x.2.1 ≤ 9223372036854775807 := by
      intro x hx
      rw [ht] at hx
      obtain ⟨y, hy, rfl⟩ := List.mem_map.1 hx
      have := hw y hy
      simp [Lit.wf, IntKind.min, IntKind.max, IntKind.signed, IntKind.bits] at this
      simp only [un64]
      omega
    refine Crc.Ev_ite_neg h5 ?_
    rw [← hl0]
    refine Ev.bind (theirs_f t (by omega)) (Ev.bind (items_f t (by omega) htot) (Ev.bind (refItems_f t (by omega) htot) (Crc.Ev_ite_pos rfl ?_)))
    have hne : ((items t).2 != (items t).2) = false := by simp
    rw [hne]
    have hl := items_length t
    refine Ev.step (fun k => by rw [tumbrellaw01_PackItems.j0, if_neg (by decide)]) ?_
    refine Ev.bind (read_f (items t).1 (by omega) (items_bytes t)) ?_
    by_cases h0 : (items t).2 = 0
    · refine Crc.Ev_ite_pos h0 ?_
      have hok : t.any bad = false ∧ t.length ≤ 4000 ∧ items t = (itemsBytes t, 0) := by
        unfold items at h0
        unfold items
        split at h0
        · simp at h0
        · rename_i h1
          split at h0
          · simp at h0
          · rename_i h2
            rw [if_neg h1, if_neg h2]
            exact ⟨by simpa using h1, by omega, rfl⟩
      have hr := read_items t hok.2.1 hok.1 hs hn
      rw [hok.2.2, hr]
      exact Crc.Ev_ite_pos rfl (Ev.bind (ours_f t hok.2.1) (Ev.bind (same_f (t.map mk64) (by rw [List.length_map]; omega)) (Ev.now _)))
    · exact Crc.Ev_ite_neg h0 (Ev.now _)

end Go.Proofs.Ytbfmndikbbfcdaa.Pure
