/- PackBack: what was written is taken as it was, whatever stands behind it; cut off, it lacks something; what is read is of bulk at most 1048576; no condition. -/
import Derived.Test.YtbfmndikbbfcdaaPPackBackx2
import Derived.Test.YtbfmndikbbfcdaaBack
namespace Go.Proofs.Ytbfmndikbbfcdaa.Pure
open Go.RowKit Go.Proofs.Ytbfmndikbbfcdaa.PPackBack Go.Proofs.YtbfmndikbbfcdaaW.PrintWords Go.Proofs.YtbfmndikbbfcdaaW.PrintLast

theorem width_l0 (n : Int) : ∀ (d w : Nat), w + d = 8 → 0 < w → Ev (fun k => pack_width.l0 k n (w : Int)) ((Pk.widLoop d w n : Nat) : Int)
  | 0, w, hw, _ => by
    refine Ev.step (fun k => by rw [pack_width.l0, if_neg (by omega)]; rfl) (Crc.Ev_val rfl)
  | d + 1, w, hw, h0 => by
    have ih := width_l0 n d (w + 1) (by omega) (by omega)
    refine Ev.step (fun k => by rw [pack_width.l0, if_pos (by omega), Crc.wrap64_id (n := 8 * (w : Int)) (by omega) (by omega), Crc.wrap64_id (n := 8 * (w : Int) - 1) (by omega) (by omega), if_pos (by omega), Pk.shr_at n w (by omega) h0]) ?_
    unfold Pk.widLoop
    by_cases h1 : n / 2 ^ (8 * w - 1) = 0
    · rw [if_pos (Or.inl h1)]
      exact Crc.Ev_ite_pos h1 (Crc.Ev_val rfl)
    · refine Crc.Ev_ite_neg h1 ?_
      by_cases h2 : n / 2 ^ (8 * w - 1) = -1
      · rw [if_pos (Or.inr h2)]
        exact Crc.Ev_ite_pos h2 (Crc.Ev_val rfl)
      · refine Crc.Ev_ite_neg h2 ?_
        rw [if_neg (fun h => h.elim h1 h2), Crc.wrap64_id (by omega) (by omega)]
        exact ih
theorem width_f (n : Int) : Ev (fun k => pack_width.f k n) (Pk.wid n : Int) := by
  unfold pack_width.f Pk.wid
  by_cases h : n = 0
  · rw [if_pos h]
    exact Crc.Ev_ite_pos h (Ev.now 0)
  · rw [if_neg h]
    exact Crc.Ev_ite_neg h (width_l0 n 7 1 (by omega) (by omega))
theorem takeNum_l0 (w : Nat) (hw : w ≤ 8) (l : List Int) (hl : l.length = w) (hb : ∀ c ∈ l, 0 ≤ c ∧ c < 256) :
    ∀ (d i : Nat) (x : Int), i + d = w → (0 < i → Pk.Fits i x) → (i = 0 → x = 0) → (0 < i → (l.drop i).foldl (fun x d => x * 256 + d) x = Pk.val l) →
    Ev (fun k => pack_TakeNumber.l0 k (w : Int) x l (l.length : Int) (i : Int)) (if Pk.wid (Pk.val l) = w then (Pk.val l, 1 + (w : Int), 0) else (0, 0, 2))
  | 0, i, x, hi, hf, hz, hv => by
    have hx : x = Pk.val l := by
      rcases Nat.eq_zero_or_pos i with h0 | h0
      · have : l = [] := List.eq_nil_of_length_eq_zero (by omega)
        rw [hz h0, this]
        rfl
      · have := hv h0
        rwa [List.drop_of_length_le (by omega)] at this
    subst hx
    refine Ev.step (fun k => by rw [pack_TakeNumber.l0, if_neg (by omega)]) (Ev.bind (width_f _) ?_)
    by_cases h : Pk.wid (Pk.val l) = w
    · rw [if_pos h]
      refine Crc.Ev_ite_pos (by omega) (Crc.Ev_val ?_)
      rw [Crc.wrap64_id (by omega) (by omega)]
    · rw [if_neg h]
      exact Crc.Ev_ite_neg (by omega) (Ev.now _)
  | d + 1, i, x, hi, hf, hz, hv => by
    have hlt : i < l.length := by omega
    have hrd : rd l (i : Int) = l[i] := by simp [rd, List.getD_eq_getElem?_getD, List.getElem?_eq_getElem hlt]
    have hc := hb l[i] (List.getElem_mem hlt)
    refine Ev.step (fun k => by rw [pack_TakeNumber.l0, if_pos (by omega), if_pos (by omega), if_pos (by omega), hrd]) ?_
    have hw1 : wrap64 ((i : Int) + 1) = ((i + 1 : Nat) : Int) := by rw [Crc.wrap64_id (by omega) (by omega)]; omega
    by_cases h0 : i = 0
    · subst h0
      refine Crc.Ev_ite_pos rfl ?_
      rw [hw1, Pk.i8_wrap _ hc.1 hc.2, Crc.wrap64_id (by unfold Pk.i8; split <;> omega) (by unfold Pk.i8; split <;> omega)]
      refine takeNum_l0 w hw l hl hb d 1 _ (by omega) (fun _ => Pk.fits_i8 _ hc.1 hc.2) (by omega) (fun _ => ?_)
      cases l with
      | nil => cases hlt
      | cons c l => rfl
    · refine Crc.Ev_ite_neg (by omega) ?_
      have hfi := hf (by omega)
      have hr := Pk.fits_range hfi (by omega)
      have hr1 := Pk.fits_range (Pk.fits_snoc' i x 0 (by omega) hfi (by omega) (by omega)) (by omega)
      rw [hw1, Crc.wrap64_id (n := l[i]) (by omega) (by omega), Crc.wrap64_id (n := x * 256) (by omega) (by omega), Pk.or_byte x _ hc.1 hc.2 ⟨by omega, by omega⟩]
      refine takeNum_l0 w hw l hl hb d (i + 1) _ (by omega) (fun _ => Pk.fits_snoc' i x _ (by omega) hfi hc.1 hc.2) (by omega) (fun _ => ?_)
      have := hv (by omega)
      rw [List.drop_eq_getElem_cons hlt, List.foldl_cons] at this
      exact this
theorem takeNum_f (l : List Int) (hl : l.length ≤ 140737488355328) (hb : ∀ c ∈ l, 0 ≤ c ∧ c < 256) : Ev (fun k => pack_TakeNumber.f k l) (Pk.take l) := by
  unfold pack_TakeNumber.f
  cases l with
  | nil => exact Crc.Ev_ite_pos rfl (Ev.now _)
  | cons w l =>
    have hw := hb w (List.mem_cons_self ..)
    have hrd : rd (w :: l) 0 = w := rfl
    rw [hrd, Crc.wrap64_id (n := w) (by omega) (by omega), Crc.wrap64_id (n := 1 + w) (by omega) (by omega)]
    simp only [List.length_cons] at hl ⊢
    unfold Pk.take
    simp only
    refine Crc.Ev_ite_neg (by omega) (Crc.Ev_ite_pos (by omega) ?_)
    by_cases h8 : 8 < w
    · rw [if_pos h8]
      exact Crc.Ev_ite_pos h8 (Ev.now _)
    · rw [if_neg h8]
      refine Crc.Ev_ite_neg h8 ?_
      by_cases hs : (l.length : Int) < w
      · rw [if_pos hs]
        exact Crc.Ev_ite_pos (by omega) (Ev.now _)
      · rw [if_neg hs]
        refine Crc.Ev_ite_neg (by omega) (Crc.Ev_ite_pos (by omega) (Crc.Ev_ite_pos (by omega) ?_))
        obtain ⟨v, rfl⟩ := Int.eq_ofNat_of_zero_le hw.1
        have hcut : ((((v : Nat) : Int) :: l).take ((1 + (v : Int)) : Int).toNat).drop 1 = l.take v := by
          rw [show ((1 + (v : Int)) : Int).toNat = v + 1 from by omega]
          rfl
        rw [hcut, Int.toNat_natCast]
        exact takeNum_l0 v (by omega) (l.take v) (by rw [List.length_take]; omega) (fun c h => hb c (List.mem_cons_of_mem _ (List.mem_of_mem_take h))) v 0 0 (by omega) (by omega) (fun _ => rfl) (by omega)

theorem takeText_f (l : List Int) (hl : l.length ≤ 140737488355328) (hb : ∀ c ∈ l, 0 ≤ c ∧ c < 256) : Ev (fun k => pack_TakeText.f k l) (Pk.takeText l) := by
  unfold pack_TakeText.f Pk.takeText
  refine Ev.bind (takeNum_f l hl hb) ?_
  have hk := Pk.take_ok l hb
  generalize Pk.take l = t at *
  obtain ⟨n, k, e⟩ := t
  simp only at hk ⊢
  by_cases h0 : e = 0
  · simp only [if_pos h0]
    obtain ⟨k1, k2, k3⟩ := hk h0
    rw [Crc.wrap64_id (n := (l.length : Int) - k) (by omega) (by omega)]
    by_cases h1 : n < 0
    · simp only [if_pos h1]
      exact Ev.now _
    · simp only [if_neg h1]
      by_cases h2 : n > (l.length : Int) - k
      · simp only [if_pos h2]
        exact Ev.now _
      · simp only [if_neg h2]
        rw [Crc.wrap64_id (n := k + n) (by omega) (by omega)]
        exact Crc.Ev_ite_pos (by omega) (Crc.Ev_ite_pos (by omega) (Crc.Ev_ite_pos (by omega) (Ev.now _)))
  · simp only [if_neg h0]
    exact Ev.now _

theorem rdL1_at (l : List (List Int)) (i : Nat) (h : i < l.length) : rd_L1 l (i : Int) = l[i] := by
  simp [rd_L1, List.getD_eq_getElem?_getD, List.getElem?_eq_getElem h]
theorem concat_l1 (l : List (List Int)) : ∀ (d i : Nat) (acc : List Int), i + d = l.length → acc.length + Pk.total (l.drop i) < 140737488355328 → l.length < 1000000 →
    Ev (fun k => slices_Concat_byte_byte.l1 k acc l (l.length : Int) (i : Int)) (acc ++ (l.drop i).flatten)
  | 0, i, acc, hi, _, _ => by
    refine Ev.step (fun k => by rw [slices_Concat_byte_byte.l1, if_neg (by omega)]) (Crc.Ev_val ?_)
    rw [List.drop_of_length_le (by omega)]
    simp
  | d + 1, i, acc, hi, ht, hl => by
    have hd : l.drop i = l[i] :: l.drop (i + 1) := List.drop_eq_getElem_cons (by omega)
    rw [hd, Pk.total_cons] at ht
    have ih := concat_l1 l d (i + 1) (acc ++ l[i]) (by omega) (by rw [List.length_append]; omega) hl
    rw [hd, List.flatten_cons, ← List.append_assoc]
    refine Ev.step (fun k => by rw [slices_Concat_byte_byte.l1, if_pos (by omega), if_pos (by omega), if_pos (by omega), rdL1_at l i (by omega), if_pos (by omega), Crc.wrap64_id (by omega) (by omega)]; rfl) ih
theorem concat_l0 (l : List (List Int)) (hl : l.length < 1000000) (hall : Pk.total l < 140737488355328) : ∀ (d i s : Nat), i + d = l.length → s + Pk.total (l.drop i) = Pk.total l →
    Ev (fun k => slices_Concat_byte_byte.l0 k l (s : Int) l (l.length : Int) (i : Int)) l.flatten
  | 0, i, s, hi, hs => by
    have hc := concat_l1 l l.length 0 [] (by omega) (by simpa using hall) hl
    rw [List.drop_zero, List.nil_append] at hc
    refine Ev.step (fun k => by rw [slices_Concat_byte_byte.l0, if_neg (by omega), if_pos (by omega), if_pos (by omega)]; rfl) hc
  | d + 1, i, s, hi, hs => by
    have hd : l.drop i = l[i] :: l.drop (i + 1) := List.drop_eq_getElem_cons (by omega)
    rw [hd, Pk.total_cons] at hs
    have ih := concat_l0 l hl hall d (i + 1) (s + l[i].length) (by omega) (by omega)
    have e : wrap64 ((s : Int) + (l[i].length : Int)) = ((s + l[i].length : Nat) : Int) := by rw [Crc.wrap64_id (by omega) (by omega)]; omega
    refine Ev.step (fun k => by rw [slices_Concat_byte_byte.l0, if_pos (by omega), if_pos (by omega), if_pos (by omega), rdL1_at l i (by omega), e, if_neg (by omega), Crc.wrap64_id (n := (i : Int) + 1) (by omega) (by omega)]; rfl) ih
theorem number_l0 (n : Int) : ∀ (j : Nat) (acc : List Int), j ≤ 8 → acc.length + j < 140737488355328 → Ev (fun k => pack_Number.l0 k n ((j : Int) - 1) acc) (acc ++ Pk.be j n)
  | 0, acc, _, _ => by
    refine Ev.step (fun k => by rw [pack_Number.l0, if_neg (by omega)]) (Crc.Ev_val (by simp [Pk.be]))
  | j + 1, acc, h8, h => by
    have ih := number_l0 n j (acc ++ [(n / 2 ^ (8 * j)) % 256]) (by omega) (by rw [List.length_append, List.length_singleton]; omega)
    have e : ((j + 1 : Nat) : Int) - 1 = (j : Int) := by omega
    rw [e]
    refine Ev.step (fun k => by rw [pack_Number.l0, if_pos (by omega), Crc.wrap64_id (n := 8 * (j : Int)) (by omega) (by omega), if_pos (by omega), if_pos (by omega), Pk.shr_byte n j (by omega), Crc.wrap64_id (n := (j : Int) - 1) (by omega) (by omega)]) ?_
    rw [List.append_assoc] at ih
    exact ih
theorem number_f (b : List Int) (n : Int) (hb : b.length + 16 ≤ 140737488355328) : Ev (fun k => pack_Number.f k b n) (b ++ Pk.number n) := by
  have hw := Pk.wid_le n
  unfold pack_Number.f
  refine Ev.bind (width_f n) ?_
  rw [Int.emod_eq_of_lt (by omega) (by omega)]
  have hc := concat_l0 [b, [(Pk.wid n : Int)]] (by simp) (by simp [Pk.total]; omega) 2 0 0 (by simp) (by simp)
  refine Ev.bind (a := b ++ [(Pk.wid n : Int)]) (by rw [show [b, [(Pk.wid n : Int)]].flatten = b ++ [(Pk.wid n : Int)] from by simp] at hc; exact hc) ?_
  rw [Crc.wrap64_id (by omega) (by omega)]
  have hn := number_l0 n (Pk.wid n) (b ++ [(Pk.wid n : Int)]) hw (by rw [List.length_append, List.length_singleton]; omega)
  rw [List.append_assoc] at hn
  exact hn

theorem number_length (n : Int) : (Pk.number n).length ≤ 9 := by
  have hw := Pk.wid_le n
  rw [Pk.number, List.length_cons, Pk.be_length]
  omega
theorem text_f (b : List Int) (s : ByteArray) (h : b.length + s.size + 100 ≤ 140737488355328) : Ev (fun k => pack_Text.f k b s) (b ++ Pk.text s) := by
  have hn := number_length (s.size : Int)
  unfold pack_Text.f
  refine Ev.bind (number_f b (s.size : Int) (by omega)) (Crc.Ev_ite_pos (by rw [List.length_append]; omega) (Crc.Ev_val ?_))
  rw [List.append_assoc]
  rfl

theorem wid_fits (n : Int) (h0 : -9223372036854775808 ≤ n) (h1 : n ≤ 9223372036854775807) : (Pk.wid n = 0 ∧ n = 0) ∨ ∃ k, Pk.wid n = k + 1 ∧ Pk.Fits (k + 1) n := by
  have key : ∀ (d w : Nat), w + d = 8 → 0 < w → ∃ k, Pk.widLoop d w n = k + 1 ∧ Pk.Fits (k + 1) n := by
    intro d
    induction d with
    | zero =>
      intro w hw _
      refine ⟨7, by simp only [Pk.widLoop]; omega, ?_⟩
      rw [Pk.fits_iff]
      have : (2 : Int) ^ (8 * 7) = 72057594037927936 := by decide
      omega
    | succ d ih =>
      intro w hw hw0
      unfold Pk.widLoop
      split
      · rename_i h
        obtain ⟨v, rfl⟩ : ∃ v, w = v + 1 := ⟨w - 1, by omega⟩
        refine ⟨v, rfl, ?_⟩
        rw [Pk.fits_iff]
        have e : (2 : Int) ^ (8 * (v + 1) - 1) = 128 * 2 ^ (8 * v) := by
          rw [show 8 * (v + 1) - 1 = 8 * v + 7 from by omega, Int.pow_add]
          omega
        rw [e] at h
        have hp : (0 : Int) < 2 ^ (8 * v) := Int.pow_pos (by decide)
        generalize (2 : Int) ^ (8 * v) = p at *
        have hd := Int.emod_add_mul_ediv n (128 * p)
        have hm0 := Int.emod_nonneg n (show (128 * p) ≠ 0 by omega)
        have hm1 := Int.emod_lt_of_pos n (show 0 < 128 * p by omega)
        rcases h with h | h
        · rw [h] at hd
          simp only [Int.mul_zero] at hd
          omega
        · rw [h] at hd
          simp only [Int.mul_neg, Int.mul_one] at hd
          omega
      · exact ih (w + 1) (by omega) (by omega)
  unfold Pk.wid
  by_cases h : n = 0
  · exact Or.inl ⟨if_pos h, h⟩
  · rw [if_neg h]
    exact Or.inr (key 7 1 (by omega) (by omega))
theorem val_number (n : Int) (h0 : -9223372036854775808 ≤ n) (h1 : n ≤ 9223372036854775807) : Pk.val (Pk.be (Pk.wid n) n) = n := by
  rcases wid_fits n h0 h1 with ⟨h, rfl⟩ | ⟨k, h, hf⟩
  · rfl
  · rw [h]
    exact Pk.val_be k n hf
theorem take_number (n : Int) (h0 : -9223372036854775808 ≤ n) (h1 : n ≤ 9223372036854775807) (b : List Int) : Pk.take (Pk.number n ++ b) = (n, ((Pk.number n).length : Int), 0) := by
  have hw := Pk.wid_le n
  have hl : ((Pk.number n).length : Int) = 1 + (Pk.wid n : Int) := by rw [Pk.number, List.length_cons, Pk.be_length]; omega
  rw [hl]
  show Pk.take ((Pk.wid n : Int) :: (Pk.be (Pk.wid n) n ++ b)) = _
  unfold Pk.take
  simp only
  have ht : (Pk.be (Pk.wid n) n ++ b).take (Pk.wid n : Int).toNat = Pk.be (Pk.wid n) n := by
    rw [Int.toNat_natCast, List.take_append_of_le_length (by rw [Pk.be_length]; omega), List.take_of_length_le (by rw [Pk.be_length]; omega)]
  rw [if_neg (by omega), if_neg (by rw [List.length_append, Pk.be_length]; omega), ht, val_number n h0 h1, if_pos (by omega)]
theorem take_short (n : Int) (c : Nat) (hc : c < (Pk.number n).length) : (Pk.take ((Pk.number n).take c)).2.2 = 5 := by
  have hw := Pk.wid_le n
  cases c with
  | zero => rfl
  | succ c =>
    rw [Pk.number, List.length_cons, Pk.be_length] at hc
    show (Pk.take ((Pk.wid n : Int) :: (Pk.be (Pk.wid n) n).take c)).2.2 = 5
    unfold Pk.take
    simp only
    rw [if_neg (by omega), if_pos (by rw [List.length_take, Pk.be_length]; omega)]
theorem str_back (s : ByteArray) : strOfNums (bytesOf s) = s := by
  apply ByteArray.ext
  apply Array.ext'
  unfold strOfNums bytesOf
  simp only [List.map_map]
  conv => rhs; rw [← List.map_id s.data.toList]
  apply List.map_congr_left
  intro b _
  simp
theorem takeText_text (s : ByteArray) (hs : s.size ≤ 1048576) (b : List Int) : Pk.takeText (Pk.text s ++ b) = (s, ((Pk.text s).length : Int), 0) := by
  have ht : Pk.take (Pk.text s ++ b) = ((s.size : Int), ((Pk.number (s.size : Int)).length : Int), 0) := by
    rw [Pk.text, List.append_assoc]
    exact take_number _ (by omega) (by omega) _
  have hl : (Pk.text s).length = (Pk.number (s.size : Int)).length + s.size := by rw [Pk.text, List.length_append, bytesOf_length]
  have hcut : ((Pk.text s ++ b).take (((Pk.number (s.size : Int)).length : Int) + (s.size : Int)).toNat).drop (((Pk.number (s.size : Int)).length : Int)).toNat = bytesOf s := by
    rw [show ((((Pk.number (s.size : Int)).length : Int)) + (s.size : Int)).toNat = (Pk.text s).length from by omega, List.take_append_of_le_length (Nat.le_refl _), List.take_of_length_le (Nat.le_refl _), Int.toNat_natCast, Pk.text, List.drop_append_of_le_length (Nat.le_refl _), List.drop_length, List.nil_append]
  unfold Pk.takeText
  rw [ht]
  simp only
  rw [if_pos trivial, if_neg (by omega), if_neg (by rw [List.length_append]; omega), hcut, str_back]
  congr 2
  omega
theorem takeText_short (s : ByteArray) (hs : s.size ≤ 1048576) (c : Nat) (hc : c < (Pk.text s).length) : (Pk.takeText ((Pk.text s).take c)).2.2 = 5 := by
  have hl : (Pk.text s).length = (Pk.number (s.size : Int)).length + s.size := by rw [Pk.text, List.length_append, bytesOf_length]
  by_cases h : c < (Pk.number (s.size : Int)).length
  · have ht : (Pk.take ((Pk.text s).take c)).2.2 = 5 := by
      rw [Pk.text, List.take_append_of_le_length (by omega)]
      exact take_short _ c h
    unfold Pk.takeText
    rw [if_neg (by rw [ht]; decide)]
    exact ht
  · have hcut : (Pk.text s).take c = Pk.number (s.size : Int) ++ (bytesOf s).take (c - (Pk.number (s.size : Int)).length) := by
      rw [Pk.text, List.take_append, List.take_of_length_le (by omega)]
    rw [hcut]
    have ht := take_number (s.size : Int) (by omega) (by omega) ((bytesOf s).take (c - (Pk.number (s.size : Int)).length))
    unfold Pk.takeText
    rw [ht]
    simp only
    rw [if_pos trivial, if_neg (by omega), if_pos (by rw [List.length_append, List.length_take, bytesOf_length]; omega)]
theorem number_bytes (n : Int) : ∀ c ∈ Pk.number n, 0 ≤ c ∧ c < 256 := by
  intro c hc
  rcases List.mem_cons.1 hc with rfl | hc
  · have := Pk.wid_le n; omega
  · exact Pk.be_byte _ _ c hc
theorem bytesOf_bytes (s : ByteArray) : ∀ c ∈ bytesOf s, 0 ≤ c ∧ c < 256 := by
  intro c hc
  unfold bytesOf at hc
  obtain ⟨b, _, rfl⟩ := List.mem_map.1 hc
  have := b.toNat_lt
  omega
theorem append_bytes {a b : List Int} (ha : ∀ c ∈ a, 0 ≤ c ∧ c < 256) (hb : ∀ c ∈ b, 0 ≤ c ∧ c < 256) : ∀ c ∈ a ++ b, 0 ≤ c ∧ c < 256 := fun c hc => (List.mem_append.1 hc).elim (ha c) (hb c)
theorem text_bytes (s : ByteArray) : ∀ c ∈ Pk.text s, 0 ≤ c ∧ c < 256 := append_bytes (number_bytes _) (bytesOf_bytes s)

theorem cutAt (x3 : Int) (h : 0 ≤ x3) (n : Nat) (hn : 0 < n) (hm : n < 1000000000) : IntKind.u64.wrap (n : Int) ≠ 0 ∧ 0 ≤ Int.tmod x3 (IntKind.u64.wrap (n : Int)) ∧ Int.tmod x3 (IntKind.u64.wrap (n : Int)) ≤ (n : Int) ∧ (Int.tmod x3 (IntKind.u64.wrap (n : Int))).toNat < n := by
  rw [Pk.u64_id (by omega) (by omega), Int.tmod_eq_emod_of_nonneg h]
  have h0 := Int.emod_nonneg x3 (show (n : Int) ≠ 0 by omega)
  have h1 := Int.emod_lt_of_pos x3 (show 0 < (n : Int) by omega)
  omega
theorem PackBack : tumbrellaw01_PackBack.Pure := by
  intro n s l2 a3 hn hs hl hm hw ha
  have hb := Pk.bytes_of hw
  have hn' : -9223372036854775808 ≤ n ∧ n ≤ 9223372036854775807 := by
    simp [Lit.wf, IntKind.min, IntKind.max, IntKind.signed, IntKind.bits] at hn
    omega
  have h3 : 0 ≤ a3 := by
    simp [Lit.wf, IntKind.min, IntKind.max, IntKind.signed, IntKind.bits] at ha
    omega
  have hx : (Pk.number n).length ≤ 9 := number_length n
  have hx0 : 0 < (Pk.number n).length := by rw [Pk.number, List.length_cons]; omega
  have hnl : (Pk.number (s.size : Int)).length ≤ 9 := number_length _
  have hy : (Pk.text s).length = (Pk.number (s.size : Int)).length + s.size := by rw [Pk.text, List.length_append, bytesOf_length]
  have hy0 : 0 < (Pk.text s).length := by rw [hy, Pk.number, List.length_cons]; omega
  refine Ev.rounds (g := fun k => tumbrellaw01_PackBack.f k n s l2 a3) ?_
  refine Ev.bind (number_f [] n (by simp)) (Ev.bind (text_f [] s (by simp; omega)) ?_)
  rw [List.nil_append, List.nil_append]
  refine Crc.Ev_ite_neg (by omega) ?_
  obtain ⟨c1, c2, c3, c4⟩ := cutAt a3 h3 (Pk.number n).length hx0 (by omega)
  obtain ⟨d1, d2, d3, d4⟩ := cutAt a3 h3 (Pk.text s).length hy0 (by omega)
  have hd : (((Pk.text s).length : Int) == 0) = false := by rw [beq_eq_false_iff_ne]; omega
  rw [hd]
  refine Ev.step (fun k => by rw [tumbrellaw01_PackBack.j0, if_neg (by decide)]) ?_
  refine Crc.Ev_let (Crc.Ev_ite_pos (by simp; omega) (Crc.Ev_let (Crc.Ev_ite_pos (by simp; omega) ?_)))
  rw [List.nil_append]
  have e1 := takeNum_f (Pk.number n ++ l2) (by rw [List.length_append]; omega) (append_bytes (number_bytes n) hb)
  rw [take_number n hn'.1 hn'.2] at e1
  refine Ev.bind e1 (Crc.Ev_let (Crc.Ev_ite_pos (by simp; omega) (Crc.Ev_let (Crc.Ev_ite_pos (by simp; omega) ?_))))
  rw [List.nil_append]
  have e2 := takeText_f (Pk.text s ++ l2) (by rw [List.length_append]; omega) (append_bytes (text_bytes s) hb)
  rw [takeText_text s hs] at e2
  refine Ev.bind e2 (Crc.Ev_ite_neg c1 (Crc.Ev_ite_pos c2 (Crc.Ev_ite_pos c3 ?_)))
  refine Ev.bind (takeNum_f _ (by rw [List.length_take]; omega) (fun c h => number_bytes n c (List.mem_of_mem_take h))) (Crc.Ev_ite_neg d1 (Crc.Ev_ite_pos d2 (Crc.Ev_ite_pos d3 ?_)))
  refine Ev.bind (takeText_f _ (by rw [List.length_take]; omega) (fun c h => text_bytes s c (List.mem_of_mem_take h))) ?_
  refine Crc.Ev_ite_pos rfl (Crc.Ev_ite_pos rfl (Crc.Ev_ite_pos rfl (Crc.Ev_ite_pos rfl (Crc.Ev_ite_pos rfl (Crc.Ev_ite_pos rfl (Crc.Ev_ite_pos (take_short n _ c4) (Crc.Ev_val ?_)))))))
  rw [takeText_short s hs _ d4]
  rfl

end Go.Proofs.Ytbfmndikbbfcdaa.Pure
