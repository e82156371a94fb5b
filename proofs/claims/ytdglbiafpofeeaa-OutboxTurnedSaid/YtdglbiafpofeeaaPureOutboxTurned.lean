/- OutboxTurned: the plain law. -/
import Derived.Test.YtdglbiafpofeeaaPOutboxTurnedx6
import Derived.Test.YtdglbiafpofeeaaBack
namespace Go.Proofs.Ytdglbiafpofeeaa.Pure
open Go.RowKit Go.Proofs.Ytdglbiafpofeeaa.POutboxTurned Go.Proofs.YtdglbiafpofeeaaW.PrintWords Go.Proofs.YtdglbiafpofeeaaW.PrintLast

theorem width_l0 (n : Int) : ∀ (d w : Nat), w + d = 8 → 0 < w → Ev (fun k => pack_width.l0 k n (w : Int)) ((Pk.widLoop d w n : Nat) : Int)
  | 0, w, hw, _ => by
    refine Ev.step (fun k => by rw [pack_width.l0, if_neg (by omega)]; rfl) (Crc.Ev_val rfl)
  | d + 1, w, hw, h0 => by
    have ih := width_l0 n d (w + 1) (by omega) (by omega)
    refine Ev.step (fun k => by rw [pack_width.l0, if_pos (by omega), Crc.wrap64_id (n := 8 * (w : Int)) (by omega) (by omega), Crc.wrap64_id (n := 8 * (w : Int) - 1) (by omega) (by omega), if_pos (by omega), Pk.shr_at n w (by omega) h0]) ?_
    unfold Pk.widLoop
    by_cases h1 : n / 2 ^ (8 * w - 1) = 0
    · rw [if_pos (Or.inl h1)]
      exact Crc.Ev_ite_pos h1 (Crc.Ev_val rfl)
    · refine Crc.Ev_ite_neg h1 ?_
      by_cases h2 : n / 2 ^ (8 * w - 1) = -1
      · rw [if_pos (Or.inr h2)]
        exact Crc.Ev_ite_pos h2 (Crc.Ev_val rfl)
      · refine Crc.Ev_ite_neg h2 ?_
        rw [if_neg (fun h => h.elim h1 h2), Crc.wrap64_id (by omega) (by omega)]
        exact ih
theorem width_f (n : Int) : Ev (fun k => pack_width.f k n) (Pk.wid n : Int) := by
  unfold pack_width.f Pk.wid
  by_cases h : n = 0
  · rw [if_pos h]
    exact Crc.Ev_ite_pos h (Ev.now 0)
  · rw [if_neg h]
    exact Crc.Ev_ite_neg h (width_l0 n 7 1 (by omega) (by omega))
theorem takeNum_l0 (w : Nat) (hw : w ≤ 8) (l : List Int) (hl : l.length = w) (hb : ∀ c ∈ l, 0 ≤ c ∧ c < 256) :
    ∀ (d i : Nat) (x : Int), i + d = w → (0 < i → Pk.Fits i x) → (i = 0 → x = 0) → (0 < i → (l.drop i).foldl (fun x d => x * 256 + d) x = Pk.val l) →
    Ev (fun k => pack_TakeNumber.l0 k (w : Int) x l (l.length : Int) (i : Int)) (if Pk.wid (Pk.val l) = w then (Pk.val l, 1 + (w : Int), 0) else (0, 0, 2))
  | 0, i, x, hi, hf, hz, hv => by
    have hx : x = Pk.val l := by
      rcases Nat.eq_zero_or_pos i with h0 | h0
      · have : l = [] := List.eq_nil_of_length_eq_zero (by omega)
        rw [hz h0, this]
        rfl
      · have := hv h0
        rwa [List.drop_of_length_le (by omega)] at this
    subst hx
    refine Ev.step (fun k => by rw [pack_TakeNumber.l0, if_neg (by omega)]) (Ev.bind (width_f _) ?_)
    by_cases h : Pk.wid (Pk.val l) = w
    · rw [if_pos h]
      refine Crc.Ev_ite_pos (by omega) (Crc.Ev_val ?_)
      rw [Crc.wrap64_id (by omega) (by omega)]
    · rw [if_neg h]
      exact Crc.Ev_ite_neg (by omega) (Ev.now _)
  | d + 1, i, x, hi, hf, hz, hv => by
    have hlt : i < l.length := by omega
    have hrd : rd l (i : Int) = l[i] := by simp [rd, List.getD_eq_getElem?_getD, List.getElem?_eq_getElem hlt]
    have hc := hb l[i] (List.getElem_mem hlt)
    refine Ev.step (fun k => by rw [pack_TakeNumber.l0, if_pos (by omega), if_pos (by omega), if_pos (by omega), hrd]) ?_
    have hw1 : wrap64 ((i : Int) + 1) = ((i + 1 : Nat) : Int) := by rw [Crc.wrap64_id (by omega) (by omega)]; omega
    by_cases h0 : i = 0
    · subst h0
      refine Crc.Ev_ite_pos rfl ?_
      rw [hw1, Pk.i8_wrap _ hc.1 hc.2, Crc.wrap64_id (by unfold Pk.i8; split <;> omega) (by unfold Pk.i8; split <;> omega)]
      refine takeNum_l0 w hw l hl hb d 1 _ (by omega) (fun _ => Pk.fits_i8 _ hc.1 hc.2) (by omega) (fun _ => ?_)
      cases l with
      | nil => cases hlt
      | cons c l => rfl
    · refine Crc.Ev_ite_neg (by omega) ?_
      have hfi := hf (by omega)
      have hr := Pk.fits_range hfi (by omega)
      have hr1 := Pk.fits_range (Pk.fits_snoc' i x 0 (by omega) hfi (by omega) (by omega)) (by omega)
      rw [hw1, Crc.wrap64_id (n := l[i]) (by omega) (by omega), Crc.wrap64_id (n := x * 256) (by omega) (by omega), Pk.or_byte x _ hc.1 hc.2 ⟨by omega, by omega⟩]
      refine takeNum_l0 w hw l hl hb d (i + 1) _ (by omega) (fun _ => Pk.fits_snoc' i x _ (by omega) hfi hc.1 hc.2) (by omega) (fun _ => ?_)
      have := hv (by omega)
      rw [List.drop_eq_getElem_cons hlt, List.foldl_cons] at this
      exact this
theorem takeNum_f (l : List Int) (hl : l.length ≤ 140737488355328) (hb : ∀ c ∈ l, 0 ≤ c ∧ c < 256) : Ev (fun k => pack_TakeNumber.f k l) (Pk.take l) := by
  unfold pack_TakeNumber.f
  cases l with
  | nil => exact Crc.Ev_ite_pos rfl (Ev.now _)
  | cons w l =>
    have hw := hb w (List.mem_cons_self ..)
    have hrd : rd (w :: l) 0 = w := rfl
    rw [hrd, Crc.wrap64_id (n := w) (by omega) (by omega), Crc.wrap64_id (n := 1 + w) (by omega) (by omega)]
    simp only [List.length_cons] at hl ⊢
    unfold Pk.take
    simp only
    refine Crc.Ev_ite_neg (by omega) (Crc.Ev_ite_pos (by omega) ?_)
    by_cases h8 : 8 < w
    · rw [if_pos h8]
      exact Crc.Ev_ite_pos h8 (Ev.now _)
    · rw [if_neg h8]
      refine Crc.Ev_ite_neg h8 ?_
      by_cases hs : (l.length : Int) < w
      · rw [if_pos hs]
        exact Crc.Ev_ite_pos (by omega) (Ev.now _)
      · rw [if_neg hs]
        refine Crc.Ev_ite_neg (by omega) (Crc.Ev_ite_pos (by omega) (Crc.Ev_ite_pos (by omega) ?_))
        obtain ⟨v, rfl⟩ := Int.eq_ofNat_of_zero_le hw.1
        have hcut : ((((v : Nat) : Int) :: l).take ((1 + (v : Int)) : Int).toNat).drop 1 = l.take v := by
          rw [show ((1 + (v : Int)) : Int).toNat = v + 1 from by omega]
          rfl
        rw [hcut, Int.toNat_natCast]
        exact takeNum_l0 v (by omega) (l.take v) (by rw [List.length_take]; omega) (fun c h => hb c (List.mem_cons_of_mem _ (List.mem_of_mem_take h))) v 0 0 (by omega) (by omega) (fun _ => rfl) (by omega)

theorem takeText_f (l : List Int) (hl : l.length ≤ 140737488355328) (hb : ∀ c ∈ l, 0 ≤ c ∧ c < 256) : Ev (fun k => pack_TakeText.f k l) (Pk.takeText l) := by
  unfold pack_TakeText.f Pk.takeText
  refine Ev.bind (takeNum_f l hl hb) ?_
  have hk := Pk.take_ok l hb
  generalize Pk.take l = t at *
  obtain ⟨n, k, e⟩ := t
  simp only at hk ⊢
  by_cases h0 : e = 0
  · simp only [if_pos h0]
    obtain ⟨k1, k2, k3⟩ := hk h0
    rw [Crc.wrap64_id (n := (l.length : Int) - k) (by omega) (by omega)]
    by_cases h1 : n < 0
    · simp only [if_pos h1]
      exact Ev.now _
    · simp only [if_neg h1]
      by_cases h2 : n > (l.length : Int) - k
      · simp only [if_pos h2]
        exact Ev.now _
      · simp only [if_neg h2]
        rw [Crc.wrap64_id (n := k + n) (by omega) (by omega)]
        exact Crc.Ev_ite_pos (by omega) (Crc.Ev_ite_pos (by omega) (Crc.Ev_ite_pos (by omega) (Ev.now _)))
  · simp only [if_neg h0]
    exact Ev.now _

theorem rdL1_at (l : List (List Int)) (i : Nat) (h : i < l.length) : rd_L5 l (i : Int) = l[i] := by
  simp [rd_L5, List.getD_eq_getElem?_getD, List.getElem?_eq_getElem h]
theorem concat_l1 (l : List (List Int)) : ∀ (d i : Nat) (acc : List Int), i + d = l.length → acc.length + Pk.total (l.drop i) < 140737488355328 → l.length < 1000000 →
    Ev (fun k => slices_Concat_byte_byte.l1 k acc l (l.length : Int) (i : Int)) (acc ++ (l.drop i).flatten)
  | 0, i, acc, hi, _, _ => by
    refine Ev.step (fun k => by rw [slices_Concat_byte_byte.l1, if_neg (by omega)]) (Crc.Ev_val ?_)
    rw [List.drop_of_length_le (by omega)]
    simp
  | d + 1, i, acc, hi, ht, hl => by
    have hd : l.drop i = l[i] :: l.drop (i + 1) := List.drop_eq_getElem_cons (by omega)
    rw [hd, Pk.total_cons] at ht
    have ih := concat_l1 l d (i + 1) (acc ++ l[i]) (by omega) (by rw [List.length_append]; omega) hl
    rw [hd, List.flatten_cons, ← List.append_assoc]
    refine Ev.step (fun k => by rw [slices_Concat_byte_byte.l1, if_pos (by omega), if_pos (by omega), if_pos (by omega), rdL1_at l i (by omega), if_pos (by omega), Crc.wrap64_id (by omega) (by omega)]; rfl) ih
theorem concat_l0 (l : List (List Int)) (hl : l.length < 1000000) (hall : Pk.total l < 140737488355328) : ∀ (d i s : Nat), i + d = l.length → s + Pk.total (l.drop i) = Pk.total l →
    Ev (fun k => slices_Concat_byte_byte.l0 k l (s : Int) l (l.length : Int) (i : Int)) l.flatten
  | 0, i, s, hi, hs => by
    have hc := concat_l1 l l.length 0 [] (by omega) (by simpa using hall) hl
    rw [List.drop_zero, List.nil_append] at hc
    refine Ev.step (fun k => by rw [slices_Concat_byte_byte.l0, if_neg (by omega), if_pos (by omega), if_pos (by omega)]; rfl) hc
  | d + 1, i, s, hi, hs => by
    have hd : l.drop i = l[i] :: l.drop (i + 1) := List.drop_eq_getElem_cons (by omega)
    rw [hd, Pk.total_cons] at hs
    have ih := concat_l0 l hl hall d (i + 1) (s + l[i].length) (by omega) (by omega)
    have e : wrap64 ((s : Int) + (l[i].length : Int)) = ((s + l[i].length : Nat) : Int) := by rw [Crc.wrap64_id (by omega) (by omega)]; omega
    refine Ev.step (fun k => by rw [slices_Concat_byte_byte.l0, if_pos (by omega), if_pos (by omega), if_pos (by omega), rdL1_at l i (by omega), e, if_neg (by omega), Crc.wrap64_id (n := (i : Int) + 1) (by omega) (by omega)]; rfl) ih
theorem number_l0 (n : Int) : ∀ (j : Nat) (acc : List Int), j ≤ 8 → acc.length + j < 140737488355328 → Ev (fun k => pack_Number.l0 k n ((j : Int) - 1) acc) (acc ++ Pk.be j n)
  | 0, acc, _, _ => by
    refine Ev.step (fun k => by rw [pack_Number.l0, if_neg (by omega)]) (Crc.Ev_val (by simp [Pk.be]))
  | j + 1, acc, h8, h => by
    have ih := number_l0 n j (acc ++ [(n / 2 ^ (8 * j)) % 256]) (by omega) (by rw [List.length_append, List.length_singleton]; omega)
    have e : ((j + 1 : Nat) : Int) - 1 = (j : Int) := by omega
    rw [e]
    refine Ev.step (fun k => by rw [pack_Number.l0, if_pos (by omega), Crc.wrap64_id (n := 8 * (j : Int)) (by omega) (by omega), if_pos (by omega), if_pos (by omega), Pk.shr_byte n j (by omega), Crc.wrap64_id (n := (j : Int) - 1) (by omega) (by omega)]) ?_
    rw [List.append_assoc] at ih
    exact ih
theorem number_f (b : List Int) (n : Int) (hb : b.length + 16 ≤ 140737488355328) : Ev (fun k => pack_Number.f k b n) (b ++ Pk.number n) := by
  have hw := Pk.wid_le n
  unfold pack_Number.f
  refine Ev.bind (width_f n) ?_
  rw [Int.emod_eq_of_lt (by omega) (by omega)]
  have hc := concat_l0 [b, [(Pk.wid n : Int)]] (by simp) (by simp [Pk.total]; omega) 2 0 0 (by simp) (by simp)
  refine Ev.bind (a := b ++ [(Pk.wid n : Int)]) (by rw [show [b, [(Pk.wid n : Int)]].flatten = b ++ [(Pk.wid n : Int)] from by simp] at hc; exact hc) ?_
  rw [Crc.wrap64_id (by omega) (by omega)]
  have hn := number_l0 n (Pk.wid n) (b ++ [(Pk.wid n : Int)]) hw (by rw [List.length_append, List.length_singleton]; omega)
  rw [List.append_assoc] at hn
  exact hn

theorem number_length (n : Int) : (Pk.number n).length ≤ 9 := by
  have hw := Pk.wid_le n
  rw [Pk.number, List.length_cons, Pk.be_length]
  omega
theorem text_f (b : List Int) (s : ByteArray) (h : b.length + s.size + 100 ≤ 140737488355328) : Ev (fun k => pack_Text.f k b s) (b ++ Pk.text s) := by
  have hn := number_length (s.size : Int)
  unfold pack_Text.f
  refine Ev.bind (number_f b (s.size : Int) (by omega)) (Crc.Ev_ite_pos (by rw [List.length_append]; omega) (Crc.Ev_val ?_))
  rw [List.append_assoc]
  rfl

theorem wid_fits (n : Int) (h0 : -9223372036854775808 ≤ n) (h1 : n ≤ 9223372036854775807) : (Pk.wid n = 0 ∧ n = 0) ∨ ∃ k, Pk.wid n = k + 1 ∧ Pk.Fits (k + 1) n := by
  have key : ∀ (d w : Nat), w + d = 8 → 0 < w → ∃ k, Pk.widLoop d w n = k + 1 ∧ Pk.Fits (k + 1) n := by
    intro d
    induction d with
    | zero =>
      intro w hw _
      refine ⟨7, by simp only [Pk.widLoop]; omega, ?_⟩
      rw [Pk.fits_iff]
      have : (2 : Int) ^ (8 * 7) = 72057594037927936 := by decide
      omega
    | succ d ih =>
      intro w hw hw0
      unfold Pk.widLoop
      split
      · rename_i h
        obtain ⟨v, rfl⟩ : ∃ v, w = v + 1 := ⟨w - 1, by omega⟩
        refine ⟨v, rfl, ?_⟩
        rw [Pk.fits_iff]
        have e : (2 : Int) ^ (8 * (v + 1) - 1) = 128 * 2 ^ (8 * v) := by
          rw [show 8 * (v + 1) - 1 = 8 * v + 7 from by omega, Int.pow_add]
          omega
        rw [e] at h
        have hp : (0 : Int) < 2 ^ (8 * v) := Int.pow_pos (by decide)
        generalize (2 : Int) ^ (8 * v) = p at *
        have hd := Int.emod_add_mul_ediv n (128 * p)
        have hm0 := Int.emod_nonneg n (show (128 * p) ≠ 0 by omega)
        have hm1 := Int.emod_lt_of_pos n (show 0 < 128 * p by omega)
        rcases h with h | h
        · rw [h] at hd
          simp only [Int.mul_zero] at hd
          omega
        · rw [h] at hd
          simp only [Int.mul_neg, Int.mul_one] at hd
          omega
      · exact ih (w + 1) (by omega) (by omega)
  unfold Pk.wid
  by_cases h : n = 0
  · exact Or.inl ⟨if_pos h, h⟩
  · rw [if_neg h]
    exact Or.inr (key 7 1 (by omega) (by omega))
theorem val_number (n : Int) (h0 : -9223372036854775808 ≤ n) (h1 : n ≤ 9223372036854775807) : Pk.val (Pk.be (Pk.wid n) n) = n := by
  rcases wid_fits n h0 h1 with ⟨h, rfl⟩ | ⟨k, h, hf⟩
  · rfl
  · rw [h]
    exact Pk.val_be k n hf
theorem take_number (n : Int) (h0 : -9223372036854775808 ≤ n) (h1 : n ≤ 9223372036854775807) (b : List Int) : Pk.take (Pk.number n ++ b) = (n, ((Pk.number n).length : Int), 0) := by
  have hw := Pk.wid_le n
  have hl : ((Pk.number n).length : Int) = 1 + (Pk.wid n : Int) := by rw [Pk.number, List.length_cons, Pk.be_length]; omega
  rw [hl]
  show Pk.take ((Pk.wid n : Int) :: (Pk.be (Pk.wid n) n ++ b)) = _
  unfold Pk.take
  simp only
  have ht : (Pk.be (Pk.wid n) n ++ b).take (Pk.wid n : Int).toNat = Pk.be (Pk.wid n) n := by
    rw [Int.toNat_natCast, List.take_append_of_le_length (by rw [Pk.be_length]; omega), List.take_of_length_le (by rw [Pk.be_length]; omega)]
  rw [if_neg (by omega), if_neg (by rw [List.length_append, Pk.be_length]; omega), ht, val_number n h0 h1, if_pos (by omega)]
theorem take_short (n : Int) (c : Nat) (hc : c < (Pk.number n).length) : (Pk.take ((Pk.number n).take c)).2.2 = 5 := by
  have hw := Pk.wid_le n
  cases c with
  | zero => rfl
  | succ c =>
    rw [Pk.number, List.length_cons, Pk.be_length] at hc
    show (Pk.take ((Pk.wid n : Int) :: (Pk.be (Pk.wid n) n).take c)).2.2 = 5
    unfold Pk.take
    simp only
    rw [if_neg (by omega), if_pos (by rw [List.length_take, Pk.be_length]; omega)]
theorem str_back (s : ByteArray) : strOfNums (bytesOf s) = s := by
  apply ByteArray.ext
  apply Array.ext'
  unfold strOfNums bytesOf
  simp only [List.map_map]
  conv => rhs; rw [← List.map_id s.data.toList]
  apply List.map_congr_left
  intro b _
  simp
theorem takeText_text (s : ByteArray) (hs : s.size ≤ 1048576) (b : List Int) : Pk.takeText (Pk.text s ++ b) = (s, ((Pk.text s).length : Int), 0) := by
  have ht : Pk.take (Pk.text s ++ b) = ((s.size : Int), ((Pk.number (s.size : Int)).length : Int), 0) := by
    rw [Pk.text, List.append_assoc]
    exact take_number _ (by omega) (by omega) _
  have hl : (Pk.text s).length = (Pk.number (s.size : Int)).length + s.size := by rw [Pk.text, List.length_append, bytesOf_length]
  have hcut : ((Pk.text s ++ b).take (((Pk.number (s.size : Int)).length : Int) + (s.size : Int)).toNat).drop (((Pk.number (s.size : Int)).length : Int)).toNat = bytesOf s := by
    rw [show ((((Pk.number (s.size : Int)).length : Int)) + (s.size : Int)).toNat = (Pk.text s).length from by omega, List.take_append_of_le_length (Nat.le_refl _), List.take_of_length_le (Nat.le_refl _), Int.toNat_natCast, Pk.text, List.drop_append_of_le_length (Nat.le_refl _), List.drop_length, List.nil_append]
  unfold Pk.takeText
  rw [ht]
  simp only
  rw [if_pos trivial, if_neg (by omega), if_neg (by rw [List.length_append]; omega), hcut, str_back]
  congr 2
  omega
theorem takeText_short (s : ByteArray) (hs : s.size ≤ 1048576) (c : Nat) (hc : c < (Pk.text s).length) : (Pk.takeText ((Pk.text s).take c)).2.2 = 5 := by
  have hl : (Pk.text s).length = (Pk.number (s.size : Int)).length + s.size := by rw [Pk.text, List.length_append, bytesOf_length]
  by_cases h : c < (Pk.number (s.size : Int)).length
  · have ht : (Pk.take ((Pk.text s).take c)).2.2 = 5 := by
      rw [Pk.text, List.take_append_of_le_length (by omega)]
      exact take_short _ c h
    unfold Pk.takeText
    rw [if_neg (by rw [ht]; decide)]
    exact ht
  · have hcut : (Pk.text s).take c = Pk.number (s.size : Int) ++ (bytesOf s).take (c - (Pk.number (s.size : Int)).length) := by
      rw [Pk.text, List.take_append, List.take_of_length_le (by omega)]
    rw [hcut]
    have ht := take_number (s.size : Int) (by omega) (by omega) ((bytesOf s).take (c - (Pk.number (s.size : Int)).length))
    unfold Pk.takeText
    rw [ht]
    simp only
    rw [if_pos trivial, if_neg (by omega), if_pos (by rw [List.length_append, List.length_take, bytesOf_length]; omega)]
theorem number_bytes (n : Int) : ∀ c ∈ Pk.number n, 0 ≤ c ∧ c < 256 := by
  intro c hc
  rcases List.mem_cons.1 hc with rfl | hc
  · have := Pk.wid_le n; omega
  · exact Pk.be_byte _ _ c hc
theorem bytesOf_bytes (s : ByteArray) : ∀ c ∈ bytesOf s, 0 ≤ c ∧ c < 256 := by
  intro c hc
  unfold bytesOf at hc
  obtain ⟨b, _, rfl⟩ := List.mem_map.1 hc
  have := b.toNat_lt
  omega
theorem append_bytes {a b : List Int} (ha : ∀ c ∈ a, 0 ≤ c ∧ c < 256) (hb : ∀ c ∈ b, 0 ≤ c ∧ c < 256) : ∀ c ∈ a ++ b, 0 ≤ c ∧ c < 256 := fun c hc => (List.mem_append.1 hc).elim (ha c) (hb c)
theorem text_bytes (s : ByteArray) : ∀ c ∈ Pk.text s, 0 ≤ c ∧ c < 256 := append_bytes (number_bytes _) (bytesOf_bytes s)

abbrev T := Bool × Int × ByteArray
/-- The item ahead, and how many bytes it has. -/
def next : List Int → Option (T × Int)
  | [] => none
  | c :: t => if c = 1 then (if (Pk.take t).2.2 = 0 then some ((false, (Pk.take t).1, (⟨#[]⟩ : ByteArray)), 1 + (Pk.take t).2.1) else none)
    else if c = 2 then (if (Pk.takeText t).2.2 = 0 then some ((true, 0, (Pk.takeText t).1), 1 + (Pk.takeText t).2.1) else none) else none
def spec : Nat → List Int → List T → List T × Int
  | 0, b, acc => if b = [] then (acc, 0) else ([], 2)
  | m + 1, b, acc => match next b with
    | none => ([], 2)
    | some x => spec m (b.drop x.2.toNat) (acc ++ [x.1])
def read (l : List Int) : List T × Int := if (Pk.take l).2.2 = 0 ∧ 0 ≤ (Pk.take l).1 ∧ (Pk.take l).1 ≤ 4000 then spec (Pk.take l).1.toNat (l.drop (Pk.take l).2.1.toNat) [] else ([], 2)
theorem takeText_ok (l : List Int) (hb : ∀ c ∈ l, 0 ≤ c ∧ c < 256) : (Pk.takeText l).2.2 = 0 → 1 ≤ (Pk.takeText l).2.1 ∧ (Pk.takeText l).2.1 ≤ (l.length : Int) := by
  have hk := Pk.take_ok l hb
  unfold Pk.takeText
  split
  · rename_i h0
    have := hk h0
    split
    · intro h; simp at h
    · split
      · intro h; simp at h
      · intro _
        constructor <;> dsimp only <;> omega
  · rename_i h0
    intro h
    exact absurd h h0
theorem dropBytes {l : List Int} (hb : ∀ c ∈ l, 0 ≤ c ∧ c < 256) (n : Nat) : ∀ c ∈ l.drop n, 0 ≤ c ∧ c < 256 := fun c h => hb c (List.mem_of_mem_drop h)

def mk52 (x : T) : S112 := ⟨x.1, x.2.1, x.2.2⟩
theorem read_l0 (n : Nat) (hn : n ≤ 4000) : ∀ (m : Nat) (b : List Int) (acc : List T), acc.length + m = n → b.length ≤ 140737488355328 → (∀ c ∈ b, 0 ≤ c ∧ c < 256) →
    Ev (fun k => pack_Read.l0 k b (n : Int) (acc.map mk52)) ((spec m b acc).1.map mk52, (spec m b acc).2) := by
  intro m
  induction m with
  | zero =>
    intro b acc hm hl hb
    have hlen : (((acc.map mk52).length : Nat) : Int) = (n : Int) := by rw [List.length_map]; omega
    cases b with
    | nil => exact Ev.step (fun k => by rw [pack_Read.l0, if_neg (by simp), if_pos hlen]; rfl) (Ev.now _)
    | cons c t =>
      have hs : spec 0 (c :: t) acc = ([], 2) := rfl
      rw [hs]
      have hlt : t.length ≤ 140737488355328 := by rw [List.length_cons] at hl; omega
      have hbt : ∀ x ∈ t, 0 ≤ x ∧ x < 256 := fun x h => hb x (List.mem_cons_of_mem _ h)
      refine Ev.step (fun k => by rw [pack_Read.l0, if_pos (by first | (simp; done) | (simp; omega)), if_pos (by first | (simp; done) | (simp; omega)), show rd (c :: t) 0 = c from rfl]) ?_
      by_cases h1 : c = 1
      · refine Crc.Ev_ite_pos h1 (Crc.Ev_ite_pos (by first | (simp; done) | (simp; omega)) (Ev.bind (takeNum_f t hlt hbt) ?_))
        by_cases h0 : (Pk.take t).2.2 = 0
        · exact Crc.Ev_ite_pos h0 (Crc.Ev_ite_pos hlen (Ev.now _))
        · exact Crc.Ev_ite_neg h0 (Ev.now _)
      · refine Crc.Ev_ite_neg h1 ?_
        by_cases h2 : c = 2
        · refine Crc.Ev_ite_pos h2 (Crc.Ev_ite_pos (by first | (simp; done) | (simp; omega)) (Ev.bind (takeText_f t hlt hbt) ?_))
          by_cases h0 : (Pk.takeText t).2.2 = 0
          · exact Crc.Ev_ite_pos h0 (Crc.Ev_ite_pos hlen (Ev.now _))
          · exact Crc.Ev_ite_neg h0 (Ev.now _)
        · exact Crc.Ev_ite_neg h2 (Ev.now _)
  | succ m ih =>
    intro b acc hm hl hb
    have hlen : ¬ (((acc.map mk52).length : Nat) : Int) = (n : Int) := by rw [List.length_map]; omega
    cases b with
    | nil => exact Ev.step (fun k => by rw [pack_Read.l0, if_neg (by simp), if_neg hlen]; rfl) (Ev.now _)
    | cons c t =>
      have hlt : t.length ≤ 140737488355328 := by rw [List.length_cons] at hl; omega
      have hbt : ∀ x ∈ t, 0 ≤ x ∧ x < 256 := fun x h => hb x (List.mem_cons_of_mem _ h)
      refine Ev.step (fun k => by rw [pack_Read.l0, if_pos (by first | (simp; done) | (simp; omega)), if_pos (by first | (simp; done) | (simp; omega)), show rd (c :: t) 0 = c from rfl]) ?_
      by_cases h1 : c = 1
      · refine Crc.Ev_ite_pos h1 (Crc.Ev_ite_pos (by first | (simp; done) | (simp; omega)) (Ev.bind (takeNum_f t hlt hbt) ?_))
        by_cases h0 : (Pk.take t).2.2 = 0
        · have hk := Pk.take_ok t hbt h0
          have hs : spec (m + 1) (c :: t) acc = spec m ((c :: t).drop (1 + (Pk.take t).2.1).toNat) (acc ++ [(false, (Pk.take t).1, (⟨#[]⟩ : ByteArray))]) := by
            simp only [spec, next, if_pos h1, if_pos h0]
          rw [hs]
          refine Crc.Ev_ite_pos h0 (Crc.Ev_ite_neg hlen (Crc.Ev_ite_pos (by rw [List.length_map]; omega) ?_))
          rw [Crc.wrap64_id (by omega) (by omega)]
          refine Crc.Ev_ite_pos (by omega) (Crc.Ev_ite_pos (by rw [List.length_cons]; omega) ?_)
          have e := ih ((c :: t).drop (1 + (Pk.take t).2.1).toNat) (acc ++ [(false, (Pk.take t).1, (⟨#[]⟩ : ByteArray))]) (by rw [List.length_append, List.length_singleton]; omega) (by rw [List.length_drop]; omega) (dropBytes hb _)
          rw [List.map_append] at e
          exact e
        · have hs : spec (m + 1) (c :: t) acc = ([], 2) := by simp only [spec, next, if_pos h1, if_neg h0]
          rw [hs]
          exact Crc.Ev_ite_neg h0 (Ev.now _)
      · refine Crc.Ev_ite_neg h1 ?_
        by_cases h2 : c = 2
        · refine Crc.Ev_ite_pos h2 (Crc.Ev_ite_pos (by first | (simp; done) | (simp; omega)) (Ev.bind (takeText_f t hlt hbt) ?_))
          by_cases h0 : (Pk.takeText t).2.2 = 0
          · have hk := takeText_ok t hbt h0
            have hs : spec (m + 1) (c :: t) acc = spec m ((c :: t).drop (1 + (Pk.takeText t).2.1).toNat) (acc ++ [(true, 0, (Pk.takeText t).1)]) := by
              simp only [spec, next, if_neg h1, if_pos h2, if_pos h0]
            rw [hs]
            refine Crc.Ev_ite_pos h0 (Crc.Ev_ite_neg hlen (Crc.Ev_ite_pos (by rw [List.length_map]; omega) ?_))
            rw [Crc.wrap64_id (by omega) (by omega)]
            refine Crc.Ev_ite_pos (by omega) (Crc.Ev_ite_pos (by rw [List.length_cons]; omega) ?_)
            have e := ih ((c :: t).drop (1 + (Pk.takeText t).2.1).toNat) (acc ++ [(true, 0, (Pk.takeText t).1)]) (by rw [List.length_append, List.length_singleton]; omega) (by rw [List.length_drop]; omega) (dropBytes hb _)
            rw [List.map_append] at e
            exact e
          · have hs : spec (m + 1) (c :: t) acc = ([], 2) := by simp only [spec, next, if_neg h1, if_pos h2, if_neg h0]
            rw [hs]
            exact Crc.Ev_ite_neg h0 (Ev.now _)
        · have hs : spec (m + 1) (c :: t) acc = ([], 2) := by simp only [spec, next, if_neg h1, if_neg h2]
          rw [hs]
          exact Crc.Ev_ite_neg h2 (Ev.now _)
theorem read_j0 (l : List Int) (x5 : Int) (n : Int) : Ev (fun k => pack_Read.j0 k l n x5 true) ([], 2) := Ev.step (fun k => by rw [pack_Read.j0, if_pos rfl]) (Ev.now _)
theorem read_f (l : List Int) (hl : l.length ≤ 140737488355328) (hb : ∀ c ∈ l, 0 ≤ c ∧ c < 256) : Ev (fun k => pack_Read.f k l) ((read l).1.map mk52, (read l).2) := by
  unfold pack_Read.f
  refine Ev.bind (takeNum_f l hl hb) ?_
  by_cases h0 : (Pk.take l).2.2 = 0
  · refine Crc.Ev_ite_pos h0 ?_
    have hk := Pk.take_ok l hb h0
    by_cases h1 : (Pk.take l).1 < 0
    · have hr : read l = ([], 2) := by unfold read; exact if_neg (fun h => by omega)
      rw [hr]
      exact Crc.Ev_ite_pos h1 (read_j0 l _ _)
    · refine Crc.Ev_ite_neg h1 ?_
      by_cases h2 : (Pk.take l).1 > 4000
      · have hr : read l = ([], 2) := by unfold read; exact if_neg (fun h => by omega)
        rw [hr, decide_eq_true h2]
        exact read_j0 l _ _
      · have hr : read l = spec (Pk.take l).1.toNat (l.drop (Pk.take l).2.1.toNat) [] := by unfold read; exact if_pos ⟨h0, by omega, by omega⟩
        rw [hr, decide_eq_false h2]
        have e := read_l0 (Pk.take l).1.toNat (by omega) (Pk.take l).1.toNat (l.drop (Pk.take l).2.1.toNat) [] (by simp) (by rw [List.length_drop]; omega) (dropBytes hb _)
        rw [show (((Pk.take l).1.toNat : Nat) : Int) = (Pk.take l).1 from by omega] at e
        exact Ev.step (fun k => by rw [pack_Read.j0, if_neg (by decide), if_pos (by omega), if_pos (by omega), if_pos (by omega), if_pos (by omega)]; rfl) e
  · have hr : read l = ([], 2) := by unfold read; exact if_neg (fun h => h0 h.1)
    rw [hr]
    exact Crc.Ev_ite_neg h0 (read_j0 l _ _)

def bad (x : T) : Bool := if x.1 = true then !(x.2.1 == 0) else !(x.2.2.toList == ([] : List UInt8))
def encode (x : T) : List Int := if x.1 = true then 2 :: Pk.text x.2.2 else 1 :: Pk.number x.2.1
def tot (t : List T) : Nat := (t.map fun x => x.2.2.size + 10).sum
theorem tot_cons (x : T) (t : List T) : tot (x :: t) = x.2.2.size + 10 + tot t := by simp [tot]
def itemsBytes (t : List T) : List Int := Pk.number (t.length : Int) ++ (t.map encode).flatten
def items (t : List T) : List Int × Int := if t.any bad = true then ([], 1) else if (t.length : Int) > 4000 then ([], 4) else (itemsBytes t, 0)
theorem rd52_at (t : List T) (i : Nat) (h : i < t.length) : rd_T112 (t.map mk52) (i : Int) = mk52 t[i] := by simp [rd_T112, List.getD_eq_getElem?_getD, List.getElem?_eq_getElem h]
theorem contains_l0 (t : List T) (ht : t.length ≤ 5000) : ∀ (d i : Nat), i + d = t.length → Ev (fun k => pack_Item_61.l0 k (t.map mk52) ((t.map mk52).length : Int) (i : Int)) ((t.drop i).any bad)
  | 0, i, h => by
    refine Ev.step (fun k => by rw [pack_Item_61.l0, if_neg (by rw [List.length_map]; omega)]) (Crc.Ev_val ?_)
    rw [List.drop_of_length_le (by omega)]
    rfl
  | d + 1, i, h => by
    have hi : i < t.length := by omega
    have ih := contains_l0 t ht d (i + 1) (by omega)
    refine Ev.step (fun k => by rw [pack_Item_61.l0, if_pos (by rw [List.length_map]; omega), if_pos (by omega), if_pos (by rw [List.length_map]; omega), rd52_at t i hi, Crc.wrap64_id (by omega) (by omega)]) ?_
    rw [List.drop_eq_getElem_cons hi, List.any_cons]
    generalize t[i] = x
    obtain ⟨b, n, s⟩ := x
    simp only [mk52]
    by_cases hb : b = true
    · subst hb
      refine Crc.Ev_ite_pos rfl ?_
      by_cases h0 : n = 0
      · subst h0
        rw [show bad (true, 0, s) = false from rfl, Bool.false_or]
        exact Crc.Ev_ite_pos rfl ih
      · refine Crc.Ev_ite_neg h0 (Crc.Ev_val ?_)
        rw [show bad (true, n, s) = true from by simp [bad, h0], Bool.true_or]
    · refine Crc.Ev_ite_neg hb ?_
      by_cases h0 : s.toList = []
      · rw [show bad (b, n, s) = false from by simp [bad, hb, h0], Bool.false_or]
        exact Crc.Ev_ite_pos h0 ih
      · refine Crc.Ev_ite_neg h0 (Crc.Ev_val ?_)
        rw [show bad (b, n, s) = true from by simp [bad, hb, h0], Bool.true_or]
theorem contains_f (t : List T) (ht : t.length ≤ 5000) : Ev (fun k => pack_Item_61.f k (t.map mk52)) (t.any bad) := by
  unfold pack_Item_61.f
  exact contains_l0 t ht t.length 0 (by omega)
theorem encode_length (x : T) : (encode x).length ≤ x.2.2.size + 10 := by
  unfold encode
  split
  · have := number_length (x.2.2.size : Int)
    rw [List.length_cons, Pk.text, List.length_append, bytesOf_length]
    omega
  · have := number_length x.2.1
    rw [List.length_cons]
    omega
theorem items_l0 (t : List T) (ht : t.length ≤ 5000) : ∀ (d i : Nat) (acc : List Int), i + d = t.length → acc.length + tot (t.drop i) ≤ 1000000000 → Ev (fun k => pack_Items.l0 k acc (t.map mk52) ((t.map mk52).length : Int) (i : Int)) (acc ++ ((t.drop i).map encode).flatten, 0)
  | 0, i, acc, h, _ => by
    refine Ev.step (fun k => by rw [pack_Items.l0, if_neg (by rw [List.length_map]; omega)]) (Crc.Ev_val ?_)
    rw [List.drop_of_length_le (by omega)]
    simp
  | d + 1, i, acc, h, hb => by
    have hi : i < t.length := by omega
    have e0 := List.drop_eq_getElem_cons hi
    have ih := items_l0 t ht d (i + 1) (acc ++ encode t[i]) (by omega) (by
      have := encode_length t[i]
      rw [e0, tot_cons] at hb
      rw [List.length_append]
      omega)
    rw [e0, tot_cons] at hb
    rw [e0, List.map_cons, List.flatten_cons, ← List.append_assoc]
    refine Ev.step (fun k => by rw [pack_Items.l0, if_pos (by rw [List.length_map]; omega), if_pos (by omega), if_pos (by rw [List.length_map]; omega), rd52_at t i hi, Crc.wrap64_id (by omega) (by omega)]) ?_
    have hs : t[i].2.2.size ≤ 1000000000 := by omega
    have hlen := encode_length t[i]
    have hlt : acc.length < 140737488355328 := by omega
    by_cases hc : t[i].1 = true
    · refine Crc.Ev_ite_pos hc (Crc.Ev_ite_pos hlt (Crc.Ev_let (Ev.bind (text_f [] t[i].2.2 (by rw [List.length_nil]; omega)) ?_)))
      have ee : encode t[i] = 2 :: Pk.text t[i].2.2 := if_pos hc
      rw [ee] at ih hlen
      rw [List.nil_append]
      refine Crc.Ev_ite_pos (by rw [List.length_append, List.length_singleton]; simp only [List.length_cons] at hlen; omega) ?_
      rw [List.append_assoc, ee]
      exact ih
    · refine Crc.Ev_ite_neg hc (Crc.Ev_ite_pos hlt (Crc.Ev_let (Ev.bind (number_f [] t[i].2.1 (by rw [List.length_nil]; omega)) ?_)))
      have ee : encode t[i] = 1 :: Pk.number t[i].2.1 := if_neg hc
      rw [ee] at ih hlen
      rw [List.nil_append]
      refine Crc.Ev_ite_pos (by rw [List.length_append, List.length_singleton]; simp only [List.length_cons] at hlen; omega) ?_
      rw [List.append_assoc, ee]
      exact ih
theorem items_f (t : List T) (ht : t.length ≤ 5000) (hb : tot t ≤ 100000000) : Ev (fun k => pack_Items.f k (t.map mk52)) (items t) := by
  unfold pack_Items.f items
  refine Ev.bind (contains_f t ht) ?_
  by_cases h1 : t.any bad = true
  · rw [if_pos h1]
    exact Crc.Ev_ite_pos h1 (Ev.now _)
  · rw [if_neg h1]
    refine Crc.Ev_ite_neg h1 ?_
    by_cases h2 : (t.length : Int) > 4000
    · rw [if_pos h2]
      exact Crc.Ev_ite_pos (by rw [List.length_map]; exact h2) (Ev.now _)
    · rw [if_neg h2]
      refine Crc.Ev_ite_neg (by rw [List.length_map]; exact h2) (Ev.bind (number_f [] ((t.map mk52).length : Int) (by simp)) ?_)
      have hn := number_length ((t.map mk52).length : Int)
      have := items_l0 t ht t.length 0 (Pk.number ((t.map mk52).length : Int)) (by omega) (by rw [List.drop_zero]; omega)
      rw [List.drop_zero] at this
      rw [List.nil_append]
      have e : itemsBytes t = Pk.number ((t.map mk52).length : Int) ++ (t.map encode).flatten := by rw [itemsBytes, List.length_map]
      rw [e]
      exact this
theorem next_encode (x : T) (hx : bad x = false) (hs : x.2.2.size ≤ 1048576) (hn : -9223372036854775808 ≤ x.2.1 ∧ x.2.1 ≤ 9223372036854775807) (rest : List Int) : next (encode x ++ rest) = some (x, ((encode x).length : Int)) := by
  obtain ⟨b, n, s⟩ := x
  unfold bad at hx
  unfold encode
  by_cases hb : b = true
  · subst hb
    simp only [if_true] at hx ⊢
    have h0 : n = 0 := by simpa using hx
    subst h0
    have ht := takeText_text s hs rest
    simp only [next, List.cons_append, if_neg (show ¬ (2 : Int) = 1 by decide), if_true, ht, List.length_cons]
    congr 2
    omega
  · have hb' : b = false := by cases b <;> simp_all
    subst hb'
    simp only [Bool.false_eq_true, if_false] at hx ⊢
    have h0 : s.toList = [] := by simpa using hx
    have hs0 : s = (⟨#[]⟩ : ByteArray) := by
      apply ByteArray.ext
      apply Array.ext'
      have := congrArg List.length h0
      rw [ByteArray.toList_eq] at h0
      exact h0
    subst hs0
    have ht := take_number n hn.1 hn.2 rest
    simp only [next, List.cons_append, if_true, ht, List.length_cons]
    congr 2
    omega
theorem spec_encode : ∀ (t : List T) (acc : List T), t.any bad = false → (∀ x ∈ t, x.2.2.size ≤ 1048576) → (∀ x ∈ t, -9223372036854775808 ≤ x.2.1 ∧ x.2.1 ≤ 9223372036854775807) → spec t.length (t.map encode).flatten acc = (acc ++ t, 0)
  | [], acc, _, _, _ => by simp [spec]
  | x :: t, acc, hb, hs, hn => by
    rw [List.any_cons, Bool.or_eq_false_iff] at hb
    have h1 := next_encode x hb.1 (hs x (List.mem_cons_self ..)) (hn x (List.mem_cons_self ..)) (t.map encode).flatten
    rw [List.length_cons, List.map_cons, List.flatten_cons]
    unfold spec
    rw [h1]
    simp only [Int.toNat_natCast, List.drop_left']
    rw [spec_encode t (acc ++ [x]) hb.2 (fun y hy => hs y (List.mem_cons_of_mem _ hy)) (fun y hy => hn y (List.mem_cons_of_mem _ hy)), List.append_assoc]
    rfl
theorem read_items (t : List T) (h4 : t.length ≤ 4000) (hb : t.any bad = false) (hs : ∀ x ∈ t, x.2.2.size ≤ 1048576) (hn : ∀ x ∈ t, -9223372036854775808 ≤ x.2.1 ∧ x.2.1 ≤ 9223372036854775807) : read (itemsBytes t) = (t, 0) := by
  have ht := take_number (t.length : Int) (by omega) (by omega) (t.map encode).flatten
  unfold read itemsBytes
  rw [ht]
  simp only
  rw [if_pos ⟨trivial, by omega, by omega⟩, Int.toNat_natCast, Int.toNat_natCast, List.drop_left' rfl, spec_encode t [] hb hs hn]
  rfl
theorem encode_bytes (x : T) : ∀ c ∈ encode x, 0 ≤ c ∧ c < 256 := by
  intro c hc
  unfold encode at hc
  split at hc
  · rcases List.mem_cons.1 hc with rfl | hc
    · omega
    · exact text_bytes _ c hc
  · rcases List.mem_cons.1 hc with rfl | hc
    · omega
    · exact number_bytes _ c hc
theorem items_bytes (t : List T) : ∀ c ∈ (items t).1, 0 ≤ c ∧ c < 256 := by
  unfold items
  split
  · intro c hc; cases hc
  · split
    · intro c hc; cases hc
    · refine append_bytes (number_bytes _) (fun c hc => ?_)
      obtain ⟨l, hl, hc⟩ := List.mem_flatten.1 hc
      obtain ⟨x, _, rfl⟩ := List.mem_map.1 hl
      exact encode_bytes x c hc
theorem flat_length : ∀ t : List T, (t.map encode).flatten.length ≤ tot t
  | [] => by simp
  | x :: t => by
    have h1 := encode_length x
    have h2 := flat_length t
    rw [List.map_cons, List.flatten_cons, List.length_append, tot_cons]
    omega
theorem items_length (t : List T) : (items t).1.length ≤ tot t + 9 := by
  unfold items
  split
  · simp
  · split
    · simp
    · have h1 := flat_length t
      have h2 := number_length (t.length : Int)
      simp only [itemsBytes, List.length_append]
      omega

theorem spec_length : ∀ (m : Nat) (b : List Int) (acc : List T), (spec m b acc).1.length ≤ acc.length + m
  | 0, b, acc => by unfold spec; split <;> simp
  | m + 1, b, acc => by
    unfold spec
    split
    · simp
    · refine Nat.le_trans (spec_length m _ _) ?_
      rw [List.length_append, List.length_singleton]
      omega
theorem read_length (l : List Int) : (read l).1.length ≤ 4000 := by
  unfold read
  split
  · rename_i h
    refine Nat.le_trans (spec_length _ _ _) ?_
    simp only [List.length_nil]
    omega
  · simp

theorem seal_l1 (l : List Int) (n i : Int) (r : Int) : ∀ (d : Nat) (s : BitVec 16) (j : Int), j + d = 8 → 0 ≤ j →
    Ev (fun k => seal_Sum.l0 k ((Crc.steps d s).toNat : Int) l n (wrap64 (i + 1))) r → Ev (fun k => seal_Sum.l1 k (s.toNat : Int) l n i j) r
  | 0, s, j, hj, h0, h => by
    refine Ev.step (fun k => by rw [seal_Sum.l1, if_neg (by omega)]; rfl) h
  | d + 1, s, j, hj, h0, h => by
    have ih := seal_l1 l n i r d (Crc.step s) (j + 1) (by omega) (by omega) h
    refine Ev.step (fun k => by rw [seal_Sum.l1, if_pos (by omega), Crc.impl_step, Crc.wrap64_id (by omega) (by omega)]) ih
theorem seal_l0 (l : List Int) (hl : l.length ≤ 140737488355328) : ∀ (d : Nat) (i : Nat) (s : BitVec 16), i + d = l.length →
    Ev (fun k => seal_Sum.l0 k (s.toNat : Int) l (l.length : Int) (i : Int)) (((l.drop i).foldl Crc.upd s).toNat : Int)
  | 0, i, s, hi => by
    refine Ev.step (fun k => by rw [seal_Sum.l0, if_neg (by omega)]) (Crc.Ev_val ?_)
    rw [List.drop_of_length_le (by omega)]
    rfl
  | d + 1, i, s, hi => by
    have ih := seal_l0 l hl d (i + 1) (Crc.upd s (rd l i)) (by omega)
    have hd : l.drop i = rd l i :: l.drop (i + 1) := by
      rw [List.drop_eq_getElem_cons (by omega)]
      congr 1
      simp [rd, List.getD_eq_getElem?_getD, List.getElem?_eq_getElem (show i < l.length by omega)]
    rw [hd, List.foldl_cons]
    refine Ev.step (fun k => by rw [seal_Sum.l0, if_pos (by omega), if_pos (by omega), if_pos (by omega), Crc.start_byte]) ?_
    refine seal_l1 l _ _ _ 8 _ 0 (by omega) (by omega) ?_
    rw [Crc.wrap64_id (by omega) (by omega)]
    exact ih
theorem seal_sum (l : List Int) (hl : l.length ≤ 140737488355328) : Ev (fun k => seal_Sum.f k l) ((Crc.sum l).toNat : Int) := seal_l0 l hl l.length 0 0xffff#16 (by omega)

theorem two_f (l : List Int) (n : Int) (hl : l.length < 140737488355326) : seal_two.f l n = some (l ++ Sl.two2 n) := by
  unfold seal_two.f
  rw [Option.bind_some, if_pos (by simp; omega)]
  rfl
theorem seal_f (l : List Int) (hl : l.length ≤ 140737488355328) : Ev (fun k => seal_Seal.f k l) (Sl.sealed l) := by
  unfold seal_Seal.f Sl.sealed
  by_cases h0 : (l.length : Int) = 0
  · rw [if_pos h0]
    exact Crc.Ev_ite_pos h0 (Ev.now _)
  · rw [if_neg h0]
    refine Crc.Ev_ite_neg h0 ?_
    by_cases h1 : (l.length : Int) > 14000
    · rw [if_pos h1]
      exact Crc.Ev_ite_pos h1 (Ev.now _)
    · rw [if_neg h1]
      refine Crc.Ev_ite_neg h1 ?_
      rw [Sl.u16_id (by omega) (by omega)]
      refine Crc.Ev_const (two_f [] _ (by simp)) ?_
      rw [List.nil_append]
      refine Ev.bind (seal_sum _ (by simp [Sl.two_len])) ?_
      refine Crc.Ev_const (two_f _ _ (by simp [Sl.two_len])) ?_
      refine Crc.Ev_ite_pos (by simp [Sl.two_len]; omega) (Crc.Ev_let ?_)
      refine Ev.bind (seal_sum _ (by simp [Sl.two_len]; omega)) ?_
      refine Crc.Ev_const (two_f _ _ (by simp [Sl.two_len]; omega)) (Crc.Ev_val ?_)
      rfl

theorem of_f (l : List Int) (hl : 2 ≤ l.length) (hb : ∀ c ∈ l, 0 ≤ c ∧ c < 256) : seal_of.f l = some (Sl.of2 l) := by
  have h0 := Sl.rd_byte hb 0
  have h1 := Sl.rd_byte hb 1
  unfold seal_of.f Sl.of2
  rw [if_pos (by omega), if_pos (by omega), Sl.u16_id (n := rd l 0) (by omega) (by omega), Sl.u16_id (n := rd l 0 * 256) (by omega) (by omega), Sl.u16_id (n := rd l 1) (by omega) (by omega), Sl.or_u16 _ _ h0 h1]
theorem clone_f (l : List Int) (hl : l.length < 140737488355328) : slices_Clone_byte_byte.f l = some l := by
  unfold slices_Clone_byte_byte.f
  rw [Option.bind_some, if_pos (by simp; omega), List.nil_append]
theorem open_j0 (l : List Int) (n : Int) (hl : l.length ≤ 140737488355328) (hb : ∀ c ∈ l, 0 ≤ c ∧ c < 256) (hn : 0 ≤ n ∧ n < 65536) (bad : Bool) (hbad : bad = false → n ≤ 14000) :
    Ev (fun k => seal_Open.j0 k l n bad) (if bad = true then ([], 0, 9) else if (l.length : Int) < 6 + n then ([], 0, 5) else
      if Sl.sm (l.take (4 + n).toNat) ≠ Sl.of2 (l.drop (4 + n).toNat) then ([], 0, 9) else ((l.take (4 + n).toNat).drop 4, 6 + n, 0)) := by
  refine Ev.step (fun k => by rw [seal_Open.j0]) ?_
  cases bad with
  | true => exact Crc.Ev_ite_pos rfl (Crc.Ev_val rfl)
  | false =>
    have hn1 := hbad rfl
    simp only [Bool.false_eq_true, if_false]
    have e4 : wrap64 (4 + n) = 4 + n := Crc.wrap64_id (by omega) (by omega)
    have e6 : wrap64 (4 + n + 2) = 6 + n := by rw [Crc.wrap64_id (by omega) (by omega)]; omega
    rw [e4, e6]
    by_cases h1 : (l.length : Int) < 6 + n
    · rw [if_pos h1]
      exact Crc.Ev_ite_pos h1 (Ev.now _)
    · rw [if_neg h1]
      refine Crc.Ev_ite_neg h1 (Crc.Ev_ite_pos (by omega) (Crc.Ev_ite_pos (by omega) ?_))
      refine Ev.bind (seal_sum _ (by rw [List.length_take]; omega)) ?_
      refine Crc.Ev_const (of_f _ (by rw [List.length_drop]; omega) (fun c hc => hb c (List.mem_of_mem_drop hc))) ?_
      by_cases h2 : Sl.sm (l.take (4 + n).toNat) = Sl.of2 (l.drop (4 + n).toNat)
      · rw [if_neg (c := Sl.sm (l.take (4 + n).toNat) ≠ Sl.of2 (l.drop (4 + n).toNat)) (fun h => h h2)]
        refine Crc.Ev_ite_pos h2 (Crc.Ev_ite_pos (by omega) ?_)
        exact Crc.Ev_const (clone_f _ (by rw [List.length_drop, List.length_take]; omega)) (Ev.now _)
      · rw [if_pos (c := Sl.sm (l.take (4 + n).toNat) ≠ Sl.of2 (l.drop (4 + n).toNat)) h2]
        exact Crc.Ev_ite_neg h2 (Ev.now _)
theorem open_f (l : List Int) (hl : l.length ≤ 140737488355328) (hb : ∀ c ∈ l, 0 ≤ c ∧ c < 256) : Ev (fun k => seal_Open.f k l) (Sl.open_ l) := by
  unfold seal_Open.f Sl.open_
  by_cases h4 : (l.length : Int) < 4
  · rw [if_pos h4]
    exact Crc.Ev_ite_pos h4 (Ev.now _)
  · rw [if_neg h4]
    refine Crc.Ev_ite_neg h4 (Crc.Ev_const (of_f l (by omega) hb) ?_)
    have hr := Sl.of2_range hb
    rw [Crc.wrap64_id (n := Sl.of2 l) (by omega) (by omega)]
    simp only
    by_cases h0 : Sl.of2 l = 0
    · rw [if_pos (Or.inl h0)]
      exact Crc.Ev_ite_pos h0 (by simpa using open_j0 l (Sl.of2 l) hl hb hr true (by simp))
    · refine Crc.Ev_ite_neg h0 ?_
      by_cases h1 : Sl.of2 l > 14000
      · rw [if_pos (Or.inr (Or.inl h1))]
        exact Crc.Ev_ite_pos h1 (by simpa using open_j0 l (Sl.of2 l) hl hb hr true (by simp))
      · refine Crc.Ev_ite_neg h1 (Crc.Ev_ite_pos (by omega) ?_)
        refine Ev.bind (seal_sum _ (by rw [List.length_take]; omega)) ?_
        refine Crc.Ev_const (of_f _ (by rw [List.length_drop]; omega) (fun c hc => hb c (List.mem_of_mem_drop hc))) ?_
        have hj := open_j0 l (Sl.of2 l) hl hb hr (Sl.sm (l.take 2) != Sl.of2 (l.drop 2)) (fun _ => by omega)
        by_cases h2 : Sl.sm (l.take 2) = Sl.of2 (l.drop 2)
        · rw [if_neg (fun h => h.elim h0 (fun h => h.elim h1 (fun h => h h2)))]
          rw [show (Sl.sm (l.take 2) != Sl.of2 (l.drop 2)) = false from by simp [h2], if_neg (by simp)] at hj
          rw [show ((((Crc.sum (l.take 2)).toNat : Nat) : Int) != Sl.of2 (l.drop 2)) = false from by simpa [Sl.sm] using h2]
          exact hj
        · rw [if_pos (Or.inr (Or.inr h2))]
          rw [show (Sl.sm (l.take 2) != Sl.of2 (l.drop 2)) = true from by simp [h2], if_pos rfl] at hj
          rw [show ((((Crc.sum (l.take 2)).toNat : Nat) : Int) != Sl.of2 (l.drop 2)) = true from by simpa [Sl.sm] using h2]
          exact hj

/-! what is taken was written so: the bytes of what is read are the bytes that were read -/
theorem byte_back (l : List Int) (h : ∀ c ∈ l, 0 ≤ c ∧ c < 256) : bytesOf (strOfNums l) = l := by
  unfold bytesOf strOfNums
  simp only [List.map_map]
  conv => rhs; rw [← List.map_id l]
  apply List.map_congr_left
  intro c hc
  have := h c hc
  simp
  omega
theorem take_canon (l : List Int) (hb : ∀ c ∈ l, 0 ≤ c ∧ c < 256) (h : (Pk.take l).2.2 = 0) : l.take (Pk.take l).2.1.toNat = Pk.number (Pk.take l).1 := by
  cases l with
  | nil => simp [Pk.take] at h
  | cons w t =>
    have hw := hb w (List.mem_cons_self ..)
    unfold Pk.take at h ⊢
    simp only at h ⊢
    split at h
    · simp at h
    · rename_i h8
      split at h
      · simp at h
      · rename_i hs
        split at h
        · rename_i hv
          rw [if_neg h8, if_neg hs, if_pos hv]
          simp only
          unfold Pk.number
          rw [hv, show (1 + w).toNat = w.toNat + 1 from by omega, List.take_succ_cons]
          have := Pk.be_val (t.take w.toNat) (fun c hc => hb c (List.mem_cons_of_mem _ (List.mem_of_mem_take hc)))
          rw [List.length_take, show min w.toNat t.length = w.toNat from by omega] at this
          rw [this, show ((w.toNat : Nat) : Int) = w from by omega]
        · simp at h
theorem fits_val (l : List Int) (hl : l.length ≤ 8) (hb : ∀ c ∈ l, 0 ≤ c ∧ c < 256) : -9223372036854775808 ≤ Pk.val l ∧ Pk.val l ≤ 9223372036854775807 := by
  have key : ∀ (l : List Int) (i : Nat) (x : Int), 0 < i → Pk.Fits i x → (∀ c ∈ l, 0 ≤ c ∧ c < 256) → Pk.Fits (i + l.length) (l.foldl (fun x d => x * 256 + d) x) := by
    intro l
    induction l with
    | nil => intro i x _ h _; exact h
    | cons c l ih =>
      intro i x hi h hb
      have hc := hb c (List.mem_cons_self ..)
      have := ih (i + 1) (x * 256 + c) (by omega) (Pk.fits_snoc' i x c hi h hc.1 hc.2) (fun d hd => hb d (List.mem_cons_of_mem _ hd))
      rw [List.foldl_cons, List.length_cons, show i + (l.length + 1) = i + 1 + l.length from by omega]
      exact this
  cases l with
  | nil => decide
  | cons c l =>
    have hc := hb c (List.mem_cons_self ..)
    have := key l 1 (Pk.i8 c) (by omega) (Pk.fits_i8 c hc.1 hc.2) (fun d hd => hb d (List.mem_cons_of_mem _ hd))
    exact Pk.fits_range this (by simp only [List.length_cons] at hl; omega)
theorem take_range (l : List Int) (hb : ∀ c ∈ l, 0 ≤ c ∧ c < 256) : -9223372036854775808 ≤ (Pk.take l).1 ∧ (Pk.take l).1 ≤ 9223372036854775807 := by
  cases l with
  | nil => decide
  | cons w t =>
    have hw := hb w (List.mem_cons_self ..)
    unfold Pk.take
    simp only
    split
    · simp
    · split
      · simp
      · split
        · exact fits_val _ (by rw [List.length_take]; omega) (fun c hc => hb c (List.mem_cons_of_mem _ (List.mem_of_mem_take hc)))
        · simp
theorem takeText_canon (l : List Int) (hb : ∀ c ∈ l, 0 ≤ c ∧ c < 256) (h : (Pk.takeText l).2.2 = 0) : l.take (Pk.takeText l).2.1.toNat = Pk.text (Pk.takeText l).1 := by
  have h1 := take_canon l hb
  have h2 := Pk.take_ok l hb
  unfold Pk.takeText at h ⊢
  split at h
  · rename_i h0
    have h1 := h1 h0
    have h2 := h2 h0
    rw [if_pos h0]
    split at h
    · simp at h
    · rename_i hn
      split at h
      · simp at h
      · rename_i hm
        rw [if_neg hn, if_neg hm]
        simp only
        generalize Pk.take l = t at *
        obtain ⟨n, k, e⟩ := t
        simp only at *
        obtain ⟨k0, rfl⟩ := Int.eq_ofNat_of_zero_le (show 0 ≤ k by omega)
        obtain ⟨n0, rfl⟩ := Int.eq_ofNat_of_zero_le (show 0 ≤ n by omega)
        rw [show ((k0 : Int) + (n0 : Int)).toNat = k0 + n0 from by omega]
        rw [Int.toNat_natCast] at h1 ⊢
        have hd : (l.take (k0 + n0)).drop k0 = (l.drop k0).take n0 := by rw [List.drop_take]; congr 1; omega
        have hbd : ∀ c ∈ (l.drop k0).take n0, 0 ≤ c ∧ c < 256 := fun c hc => hb c (List.mem_of_mem_drop (List.mem_of_mem_take hc))
        have hlen : ((l.drop k0).take n0).length = n0 := by rw [List.length_take, List.length_drop]; omega
        unfold Pk.text
        rw [hd, byte_back _ hbd, Pk.str_size, hlen, ← h1, List.take_add]
  · rename_i h0
    exact absurd h h0
theorem next_canon (b : List Int) (hb : ∀ c ∈ b, 0 ≤ c ∧ c < 256) (x : T) (k : Int) (h : next b = some (x, k)) : b.take k.toNat = encode x ∧ bad x = false ∧ -9223372036854775808 ≤ x.2.1 ∧ x.2.1 ≤ 9223372036854775807 ∧ 1 ≤ k ∧ k ≤ (b.length : Int) := by
  cases b with
  | nil => cases h
  | cons c t =>
    have hbt : ∀ d ∈ t, 0 ≤ d ∧ d < 256 := fun d hd => hb d (List.mem_cons_of_mem _ hd)
    unfold next at h
    simp only at h
    split at h
    · rename_i h1
      split at h
      · rename_i h0
        simp only [Option.some.injEq, Prod.mk.injEq] at h
        obtain ⟨rfl, rfl⟩ := h
        have hk := Pk.take_ok t hbt h0
        have hr := take_range t hbt
        have hc := take_canon t hbt h0
        have hbd : bad (false, (Pk.take t).1, (⟨#[]⟩ : ByteArray)) = false := by
          show (!((⟨#[]⟩ : ByteArray).toList == ([] : List UInt8))) = false
          rw [ByteArray.toList_eq]
          rfl
        refine ⟨?_, hbd, hr.1, hr.2, by omega, by rw [List.length_cons]; omega⟩
        rw [show (1 + (Pk.take t).2.1).toNat = (Pk.take t).2.1.toNat + 1 from by omega, List.take_succ_cons, hc, h1]
        rfl
      · cases h
    · split at h
      · rename_i h1
        split at h
        · rename_i h0
          simp only [Option.some.injEq, Prod.mk.injEq] at h
          obtain ⟨rfl, rfl⟩ := h
          have hk := takeText_ok t hbt h0
          have hc := takeText_canon t hbt h0
          refine ⟨?_, rfl, by simp, by simp, by omega, by rw [List.length_cons]; omega⟩
          rw [show (1 + (Pk.takeText t).2.1).toNat = (Pk.takeText t).2.1.toNat + 1 from by omega, List.take_succ_cons, hc, h1]
          rfl
        · cases h
      · cases h
theorem spec_canon : ∀ (m : Nat) (b : List Int) (acc : List T), (∀ c ∈ b, 0 ≤ c ∧ c < 256) → (spec m b acc).2 = 0 →
    ∃ t : List T, (spec m b acc).1 = acc ++ t ∧ t.length = m ∧ b = (t.map encode).flatten ∧ t.any bad = false ∧ ∀ x ∈ t, -9223372036854775808 ≤ x.2.1 ∧ x.2.1 ≤ 9223372036854775807
  | 0, b, acc, hb, h => by
    unfold spec at h ⊢
    split at h
    · rename_i h0
      exact ⟨[], by rw [if_pos h0]; simp, rfl, by simpa using h0, rfl, fun x hx => by cases hx⟩
    · simp at h
  | m + 1, b, acc, hb, h => by
    unfold spec at h ⊢
    cases hn : next b with
    | none => rw [hn] at h; simp at h
    | some x =>
      obtain ⟨x, k⟩ := x
      rw [hn] at h
      simp only at h ⊢
      obtain ⟨h1, h2, h3, h4, h5, h6⟩ := next_canon b hb x k hn
      obtain ⟨t, e1, e2, e3, e4, e5⟩ := spec_canon m (b.drop k.toNat) (acc ++ [x]) (dropBytes hb _) h
      refine ⟨x :: t, by rw [e1, List.append_assoc]; rfl, by rw [List.length_cons, e2], ?_, ?_, ?_⟩
      · rw [List.map_cons, List.flatten_cons, ← h1, ← e3, List.take_append_drop]
      · rw [List.any_cons, h2, e4]; rfl
      · intro y hy
        rcases List.mem_cons.1 hy with rfl | hy
        · exact ⟨h3, h4⟩
        · exact e5 y hy
theorem read_canon (l : List Int) (hb : ∀ c ∈ l, 0 ≤ c ∧ c < 256) (h : (read l).2 = 0) : l = itemsBytes (read l).1 ∧ (read l).1.any bad = false ∧ (∀ x ∈ (read l).1, -9223372036854775808 ≤ x.2.1 ∧ x.2.1 ≤ 9223372036854775807) := by
  unfold read at h ⊢
  split at h
  · rename_i h0
    rw [if_pos h0]
    obtain ⟨t, e1, e2, e3, e4, e5⟩ := spec_canon _ _ [] (dropBytes hb _) h
    have hk := Pk.take_ok l hb h0.1
    have hc := take_canon l hb h0.1
    rw [e1, List.nil_append]
    refine ⟨?_, e4, e5⟩
    unfold itemsBytes
    rw [e2, ← e3, show (((Pk.take l).1.toNat : Nat) : Int) = (Pk.take l).1 from by omega, ← hc, List.take_append_drop]
  · simp at h
theorem mem_size (b : List Int) : ∀ (t : List T), b = (t.map encode).flatten → ∀ x ∈ t, x.1 = true → x.2.2.size ≤ b.length
  | [], _, x, hx, _ => by cases hx
  | y :: t, hb, x, hx, h1 => by
    rw [hb, List.map_cons, List.flatten_cons, List.length_append]
    rcases List.mem_cons.1 hx with rfl | hx
    · have : encode x = 2 :: Pk.text x.2.2 := if_pos h1
      rw [this, List.length_cons, Pk.text, List.length_append, bytesOf_length]
      omega
    · have := mem_size (t.map encode).flatten t rfl x hx h1
      omega
/-- What opens is sealed bytes. -/
theorem open_canon (b : List Int) (hb : ∀ c ∈ b, 0 ≤ c ∧ c < 256) (h0 : (Sl.open_ b).2.2 = 0) (h1 : (Sl.open_ b).2.1 = (b.length : Int)) : b = Sl.bseal (Sl.open_ b).1 ∧ 0 < (Sl.open_ b).1.length ∧ (Sl.open_ b).1.length ≤ 14000 ∧ (∀ c ∈ (Sl.open_ b).1, 0 ≤ c ∧ c < 256) := by
  unfold Sl.open_ at h0 h1 ⊢
  have hr := Sl.of2_range hb
  split at h0
  · simp at h0
  · rename_i h4
    rw [if_neg h4] at h1 ⊢
    simp only at h0 h1 ⊢
    split at h0
    · simp at h0
    · rename_i h9
      rw [if_neg h9] at h1 ⊢
      split at h0
      · simp at h0
      · rename_i h6
        rw [if_neg h6] at h1 ⊢
        split at h0
        · simp at h0
        · rename_i hs
          rw [if_neg hs] at h1 ⊢
          simp only at h1 ⊢
          have hn0 : Sl.of2 b ≠ 0 := fun h => h9 (Or.inl h)
          have hn1 : ¬ Sl.of2 b > 14000 := fun h => h9 (Or.inr (Or.inl h))
          have hs1 : Sl.sm (b.take 2) = Sl.of2 (b.drop 2) := Classical.not_not.1 fun h => h9 (Or.inr (Or.inr h))
          have hs2 : Sl.sm (b.take (4 + Sl.of2 b).toNat) = Sl.of2 (b.drop (4 + Sl.of2 b).toNat) := Classical.not_not.1 hs
          obtain ⟨n, hn⟩ := Int.eq_ofNat_of_zero_le hr.1
          rw [hn] at h1 hs2 hn0 hn1 ⊢
          rw [show ((4 : Int) + (n : Int)).toNat = 4 + n from by omega] at hs2 ⊢
          have hlen : b.length = n + 6 := by omega
          have hp : ((b.take (4 + n)).drop 4).length = n := by rw [List.length_drop, List.length_take]; omega
          refine ⟨?_, by omega, by omega, fun c hc => hb c (List.mem_of_mem_take (List.mem_of_mem_drop hc))⟩
          have two_of : ∀ l : List Int, (∀ c ∈ l, 0 ≤ c ∧ c < 256) → 2 ≤ l.length → Sl.two2 (Sl.of2 l) = l.take 2 := by
            intro l hl h2
            have hr := Sl.of2_range hl
            match l, h2 with
            | x :: y :: r, _ =>
              have hx := hl x (by simp)
              have hy := hl y (by simp)
              exact (Sl.two2_eq hr.1 hr.2 hx hy).2 rfl
          have t1 := two_of b hb (by omega)
          have t2 := two_of (b.drop 2) (dropBytes hb _) (by rw [List.length_drop]; omega)
          have t3 := two_of (b.drop (4 + n)) (dropBytes hb _) (by rw [List.length_drop]; omega)
          rw [hn] at t1
          unfold Sl.bseal
          rw [hp, t1, hs1, t2]
          have e4 : b.take 2 ++ (b.drop 2).take 2 = b.take 4 := by rw [← List.take_add]
          have e5 : b.take 4 ++ (b.take (4 + n)).drop 4 = b.take (4 + n) := by
            rw [show b.take 4 = (b.take (4 + n)).take 4 from by rw [List.take_take]; congr 1; omega, List.take_append_drop]
          rw [e4, e5, hs2, t3]
          rw [show (b.drop (4 + n)).take 2 = b.drop (4 + n) from List.take_of_length_le (by rw [List.length_drop]; omega), List.take_append_drop]
theorem open_seal (p : List Int) (hp : ∀ c ∈ p, 0 ≤ c ∧ c < 256) (h0 : 0 < p.length) (h1 : p.length ≤ 14000) : Sl.open_ (Sl.bseal p) = (p, ((Sl.bseal p).length : Int), 0) := by
  obtain ⟨f1, f2, f3, f4⟩ := Sl.bseal_facts p h1
  have hl := Sl.bseal_length p
  have := Sl.open_good (b := Sl.bseal p) (n := p.length) hl f1 h0 h1 f2 f3 []
  rw [List.append_nil] at this
  rw [this, f4, hl]

def formed (k i t : Int) (s : ByteArray) (a : Int) (o : Bool) : Bool :=
  decide (1 ≤ k ∧ k ≤ 4 ∧ 0 ≤ i ∧ i ≤ 2147483647 ∧ 0 ≤ t ∧ t ≤ 2147483647 ∧ 0 ≤ a ∧ a ≤ 2147483647 ∧ s.size ≤ 200 ∧ (o = true → 3 ≤ k))
theorem formed_iff (k i t : Int) (s : ByteArray) (a : Int) (o : Bool) : formed k i t s a o = true ↔ (1 ≤ k ∧ k ≤ 4 ∧ 0 ≤ i ∧ i ≤ 2147483647 ∧ 0 ≤ t ∧ t ≤ 2147483647 ∧ 0 ≤ a ∧ a ≤ 2147483647 ∧ s.size ≤ 200 ∧ (o = true → 3 ≤ k)) := by
  unfold formed
  exact decide_eq_true_iff
theorem number_ev (n : Int) : outbox_number.f n = some (decide (0 ≤ n ∧ n ≤ 2147483647)) := by
  unfold outbox_number.f
  by_cases h : n ≥ 0
  · rw [if_pos h]
    congr 1
    exact decide_eq_decide.2 ⟨fun h2 => ⟨h, h2⟩, fun h2 => h2.2⟩
  · rw [if_neg h]
    congr 1
    exact (decide_eq_false (fun h2 => h h2.1)).symm
theorem formed_f (k i t : Int) (s : ByteArray) (a : Int) (o : Bool) : outbox_Formed.f k i t s a o = some (formed k i t s a o) := by
  have F : ∀ b : Bool, (formed k i t s a o = true ↔ b = true) → some b = some (formed k i t s a o) := fun b h => by
    congr 1
    cases hb : formed k i t s a o <;> cases b <;> simp_all
  unfold outbox_Formed.f
  by_cases h1 : k ≥ 1
  · rw [if_pos h1]
    by_cases h2 : k ≤ 4
    · rw [if_pos h2, number_ev i, Option.bind_some]
      by_cases h3 : 0 ≤ i ∧ i ≤ 2147483647
      · rw [decide_eq_true h3, if_pos rfl, number_ev t, Option.bind_some]
        by_cases h4 : 0 ≤ t ∧ t ≤ 2147483647
        · rw [decide_eq_true h4, if_pos rfl, number_ev a, Option.bind_some]
          by_cases h5 : 0 ≤ a ∧ a ≤ 2147483647
          · rw [decide_eq_true h5, if_pos rfl]
            by_cases h6 : (s.size : Int) ≤ 200
            · rw [if_pos h6]
              by_cases h7 : o = true
              · rw [if_pos h7]
                refine F _ ?_
                rw [formed_iff, decide_eq_true_iff]
                exact ⟨fun h => h.2.2.2.2.2.2.2.2.2 h7, fun h => ⟨h1, h2, h3.1, h3.2, h4.1, h4.2, h5.1, h5.2, by omega, fun _ => h⟩⟩
              · rw [if_neg h7]
                refine F _ ?_
                rw [formed_iff]
                exact ⟨fun _ => rfl, fun _ => ⟨h1, h2, h3.1, h3.2, h4.1, h4.2, h5.1, h5.2, by omega, fun h => absurd h h7⟩⟩
            · rw [if_neg h6]
              refine F _ ?_
              rw [formed_iff]
              exact ⟨fun h => absurd h.2.2.2.2.2.2.2.2.1 (by omega), fun h => by cases h⟩
          · rw [decide_eq_false h5, if_neg (by decide)]
            refine F _ ?_
            rw [formed_iff]
            exact ⟨fun h => absurd ⟨h.2.2.2.2.2.2.1, h.2.2.2.2.2.2.2.1⟩ h5, fun h => by cases h⟩
        · rw [decide_eq_false h4, if_neg (by decide)]
          refine F _ ?_
          rw [formed_iff]
          exact ⟨fun h => absurd ⟨h.2.2.2.2.1, h.2.2.2.2.2.1⟩ h4, fun h => by cases h⟩
      · rw [decide_eq_false h3, if_neg (by decide)]
        refine F _ ?_
        rw [formed_iff]
        exact ⟨fun h => absurd ⟨h.2.2.1, h.2.2.2.1⟩ h3, fun h => by cases h⟩
    · rw [if_neg h2]
      refine F _ ?_
      rw [formed_iff]
      exact ⟨fun h => absurd h.2.1 h2, fun h => by cases h⟩
  · rw [if_neg h1]
    refine F _ ?_
    rw [formed_iff]
    exact ⟨fun h => absurd h.1 h1, fun h => by cases h⟩
abbrev e0 : ByteArray := ⟨#[]⟩
def msgItems (k i t : Int) (s : ByteArray) (a : Int) (o : Bool) : List T := [(false, k, e0), (false, i, e0), (false, t, e0), (true, 0, s), (false, a, e0), (false, (if o = true then 1 else 0), e0)]
theorem tot_msg (k i t : Int) (s : ByteArray) (a : Int) (o : Bool) : tot (msgItems k i t s a o) = s.size + 60 := by
  have he : e0.size = 0 := rfl
  have hn : tot [] = 0 := rfl
  unfold msgItems
  rw [tot_cons, tot_cons, tot_cons, tot_cons, tot_cons, tot_cons, hn]
  simp only [he]
  omega
def encodeM (k i t : Int) (s : ByteArray) (a : Int) (o : Bool) : List Int × Int := if formed k i t s a o = true then Sl.sealed (items (msgItems k i t s a o)).1 else ([], 1)
theorem encode_f (k i t : Int) (s : ByteArray) (a : Int) (o : Bool) : Ev (fun n => outbox_Encode.f n k i t s a o) (encodeM k i t s a o) := by
  unfold outbox_Encode.f encodeM
  refine Crc.Ev_const (formed_f k i t s a o) ?_
  by_cases hf : formed k i t s a o = true
  · rw [if_pos hf]
    refine Crc.Ev_ite_pos hf ?_
    have h := (formed_iff k i t s a o).1 hf
    have ht : tot (msgItems k i t s a o) ≤ 100000000 := by
      have := h.2.2.2.2.2.2.2.2.1
      rw [tot_msg]
      omega
    have hi := items_f (msgItems k i t s a o) (by simp [msgItems]) ht
    have hl := items_length (msgItems k i t s a o)
    have hs := seal_f (items (msgItems k i t s a o)).1 (by omega)
    by_cases ho : o = true
    · subst ho
      exact Crc.Ev_ite_pos rfl (Ev.bind hi (Ev.bind hs (Ev.now _)))
    · have ho' : o = false := by cases o <;> simp_all
      subst ho'
      exact Crc.Ev_ite_neg (by decide) (Ev.bind hi (Ev.bind hs (Ev.now _)))
  · rw [if_neg hf]
    exact Crc.Ev_ite_neg hf (Ev.now _)
theorem awake_f : Ev (fun n => tumbrellaw18_awake.f n) true := by
  unfold tumbrellaw18_awake.f
  have he : (encodeM 1 0 0 e0 0 false).2 = 0 ∧ ((encodeM 1 0 0 e0 0 false).1.length : Int) > 6 := by decide +kernel
  refine Ev.bind (encode_f 1 0 0 e0 0 false) (Crc.Ev_ite_pos he.1 (Crc.Ev_ite_pos he.2 (Crc.Ev_const (formed_f 1 0 0 e0 0 false) (Crc.Ev_val (by decide)))))
def out (x : T) : Bool := decide (x.2.1 < 0) || decide (x.2.1 > 2147483647)
theorem out_l0 (t : List T) (ht : t.length ≤ 5000) : ∀ (d i : Nat), i + d = t.length → Ev (fun k => pack_Item_79.l0 k (t.map mk52) ((t.map mk52).length : Int) (i : Int)) ((t.drop i).any out)
  | 0, i, h => by
    refine Ev.step (fun k => by rw [pack_Item_79.l0, if_neg (by rw [List.length_map]; omega)]) (Crc.Ev_val ?_)
    rw [List.drop_of_length_le (by omega)]
    rfl
  | d + 1, i, h => by
    have hi : i < t.length := by omega
    have ih := out_l0 t ht d (i + 1) (by omega)
    refine Ev.step (fun k => by rw [pack_Item_79.l0, if_pos (by rw [List.length_map]; omega), if_pos (by omega), if_pos (by rw [List.length_map]; omega), rd52_at t i hi, Crc.wrap64_id (by omega) (by omega)]) ?_
    rw [List.drop_eq_getElem_cons hi, List.any_cons]
    generalize t[i] = x
    obtain ⟨b, n, s⟩ := x
    simp only [mk52]
    by_cases h1 : n < 0
    · refine Crc.Ev_ite_pos h1 (Crc.Ev_val ?_)
      rw [show out (b, n, s) = true from by simp [out, h1], Bool.true_or]
    · refine Crc.Ev_ite_neg h1 ?_
      by_cases h2 : n > 2147483647
      · refine Crc.Ev_ite_pos h2 (Crc.Ev_val ?_)
        rw [show out (b, n, s) = true from by simp [out, h2], Bool.true_or]
      · rw [show out (b, n, s) = false from by simp [out, h1, h2], Bool.false_or]
        exact Crc.Ev_ite_neg h2 ih
theorem out_f (t : List T) (ht : t.length ≤ 5000) : Ev (fun k => pack_Item_79.f k (t.map mk52)) (t.any out) := by
  unfold pack_Item_79.f
  exact out_l0 t ht t.length 0 (by omega)
theorem equal_l0 (a b : List Int) (hl : a.length = b.length) (hm : a.length ≤ 140737488355328) : ∀ (d i : Nat), i + d = a.length → Ev (fun k => slices_Equal_byte_byte.l0 k a b (a.length : Int) (i : Int)) (decide (a.drop i = b.drop i))
  | 0, i, h => by
    refine Ev.step (fun k => by rw [slices_Equal_byte_byte.l0, if_neg (by omega)]) (Crc.Ev_val ?_)
    rw [List.drop_of_length_le (by omega), List.drop_of_length_le (by omega)]
    rfl
  | d + 1, i, h => by
    have ih := equal_l0 a b hl hm d (i + 1) (by omega)
    have ha : i < a.length := by omega
    have hb : i < b.length := by omega
    refine Ev.step (fun k => by rw [slices_Equal_byte_byte.l0, if_pos (by omega), if_pos (by omega), if_pos (by omega), if_pos (by omega), Sl.rd_at a i ha, Sl.rd_at b i hb, Crc.wrap64_id (by omega) (by omega)]) ?_
    rw [List.drop_eq_getElem_cons ha, List.drop_eq_getElem_cons hb]
    by_cases he : a[i] = b[i]
    · refine Crc.Ev_ite_pos he ?_
      have e : decide (a[i] :: a.drop (i + 1) = b[i] :: b.drop (i + 1)) = decide (a.drop (i + 1) = b.drop (i + 1)) := by
        refine decide_eq_decide.2 ⟨fun h => ?_, fun h => by rw [he, h]⟩
        injection h
      rw [e]
      exact ih
    · refine Crc.Ev_ite_neg he (Crc.Ev_val ?_)
      refine (decide_eq_false (fun h => he ?_)).symm
      injection h
theorem equal_f (a b : List Int) (hm : a.length ≤ 140737488355328) : Ev (fun k => slices_Equal_byte_byte.f k a b) (decide (a = b)) := by
  unfold slices_Equal_byte_byte.f
  by_cases h : a.length = b.length
  · exact Crc.Ev_ite_pos (by omega) (equal_l0 a b h hm a.length 0 (by omega))
  · exact Crc.Ev_ite_neg (by omega) (Crc.Ev_val (decide_eq_false (fun e => h (by rw [e]))).symm)
abbrev M7 := Int × Int × Int × ByteArray × Int × Bool × Int
def err7 : M7 := (0, 0, 0, e0, 0, false, 2)
def tailI (b : List Int) : List T → M7
  | [x0, x1, x2, x3, x4, x5] =>
    if (encodeM x0.2.1 x1.2.1 x2.2.1 x3.2.2 x4.2.1 (x5.2.1 == 1)).2 = 0 then
      if (encodeM x0.2.1 x1.2.1 x2.2.1 x3.2.2 x4.2.1 (x5.2.1 == 1)).1 = b then (x0.2.1, x1.2.1, x2.2.1, x3.2.2, x4.2.1, (x5.2.1 == 1), 0) else err7
    else err7
  | _ => err7
theorem tailI_eq (b : List Int) (x0 x1 x2 x3 x4 x5 : T) : tailI b [x0, x1, x2, x3, x4, x5] = if (encodeM x0.2.1 x1.2.1 x2.2.1 x3.2.2 x4.2.1 (x5.2.1 == 1)).2 = 0 then
      if (encodeM x0.2.1 x1.2.1 x2.2.1 x3.2.2 x4.2.1 (x5.2.1 == 1)).1 = b then (x0.2.1, x1.2.1, x2.2.1, x3.2.2, x4.2.1, (x5.2.1 == 1), 0) else err7
    else err7 := rfl
def midI (b : List Int) (t : List T) : M7 := if t.length = 6 then (if t.any out = true then err7 else tailI b t) else err7
def decI (b : List Int) : M7 :=
  if (Sl.open_ b).2.2 = 0 then (if (Sl.open_ b).2.1 = (b.length : Int) then (if (read (Sl.open_ b).1).2 = 0 then midI b (read (Sl.open_ b).1).1 else err7) else err7) else err7
theorem list6 {α : Type} (t : List α) (h : t.length = 6) : ∃ x0 x1 x2 x3 x4 x5, t = [x0, x1, x2, x3, x4, x5] := by
  match t, h with
  | [x0, x1, x2, x3, x4, x5], _ => exact ⟨x0, x1, x2, x3, x4, x5, rfl⟩
theorem encodeM_length (k i t : Int) (s : ByteArray) (a : Int) (o : Bool) : (encodeM k i t s a o).1.length ≤ 14006 := by
  unfold encodeM
  split
  · unfold Sl.sealed
    split
    · simp
    · split
      · simp
      · rename_i h _
        simp only [List.length_append, Sl.two2, List.length_cons, List.length_nil]
        omega
  · simp
theorem decode_j1_true (b : List Int) (l : List S112) : Ev (fun k => outbox_Decode.j1 k b l true) err7 := Ev.step (fun k => by rw [outbox_Decode.j1, if_pos rfl]; rfl) (Ev.now _)
theorem decode_j1 (b : List Int) (t : List T) (h6 : t.length = 6) : Ev (fun k => outbox_Decode.j1 k b (t.map mk52) false) (tailI b t) := by
  obtain ⟨x0, x1, x2, x3, x4, x5, rfl⟩ := list6 t h6
  refine Ev.step (fun k => by rw [outbox_Decode.j1, if_neg (by decide)]) ?_
  refine Crc.Ev_ite_pos (by simp) (Crc.Ev_ite_pos (by simp) (Crc.Ev_ite_pos (by simp) (Crc.Ev_ite_pos (by simp) (Crc.Ev_ite_pos (by simp) (Crc.Ev_ite_pos (by simp) ?_)))))
  have el := encodeM_length x0.2.1 x1.2.1 x2.2.1 x3.2.2 x4.2.1 (x5.2.1 == 1)
  refine Ev.bind (encode_f x0.2.1 x1.2.1 x2.2.1 x3.2.2 x4.2.1 (x5.2.1 == 1)) ?_
  rw [tailI_eq]
  by_cases h0 : (encodeM x0.2.1 x1.2.1 x2.2.1 x3.2.2 x4.2.1 (x5.2.1 == 1)).2 = 0
  · rw [if_pos h0]
    refine Crc.Ev_ite_pos h0 (Ev.bind (equal_f _ b (by omega)) ?_)
    by_cases h1 : (encodeM x0.2.1 x1.2.1 x2.2.1 x3.2.2 x4.2.1 (x5.2.1 == 1)).1 = b
    · rw [if_pos h1]
      exact Crc.Ev_ite_pos (decide_eq_true h1) (Ev.now _)
    · rw [if_neg h1]
      exact Crc.Ev_ite_neg (by rw [decide_eq_false h1]; decide) (Ev.now _)
  · rw [if_neg h0]
    exact Crc.Ev_ite_neg h0 (Ev.now _)
theorem decode_j0_true (b l : List Int) : Ev (fun k => outbox_Decode.j0 k b l true) err7 := Ev.step (fun k => by rw [outbox_Decode.j0, if_pos rfl]; rfl) (Ev.now _)
theorem open_bytes (l : List Int) (hb : ∀ c ∈ l, 0 ≤ c ∧ c < 256) : (∀ c ∈ (Sl.open_ l).1, 0 ≤ c ∧ c < 256) ∧ (Sl.open_ l).1.length ≤ l.length := by
  unfold Sl.open_
  split
  · exact ⟨fun c h => (by cases h), by simp⟩
  · simp only
    split
    · exact ⟨fun c h => (by cases h), by simp⟩
    · split
      · exact ⟨fun c h => (by cases h), by simp⟩
      · split
        · exact ⟨fun c h => (by cases h), by simp⟩
        · exact ⟨fun c h => hb c (List.mem_of_mem_take (List.mem_of_mem_drop h)), by rw [List.length_drop, List.length_take]; omega⟩
theorem decode_f (b : List Int) (hl : b.length ≤ 140737488355328) (hb : ∀ c ∈ b, 0 ≤ c ∧ c < 256) : Ev (fun k => outbox_Decode.f k b) (decI b) := by
  unfold outbox_Decode.f decI
  have ho := open_bytes b hb
  refine Ev.bind (open_f b hl hb) ?_
  by_cases h0 : (Sl.open_ b).2.2 = 0
  · rw [if_pos h0]
    refine Crc.Ev_ite_pos h0 ?_
    by_cases h1 : (Sl.open_ b).2.1 = (b.length : Int)
    · rw [if_pos h1, show ((Sl.open_ b).2.1 != (b.length : Int)) = false from by simp [h1]]
      refine Ev.step (fun k => by rw [outbox_Decode.j0, if_neg (by decide)]) ?_
      refine Ev.bind (read_f (Sl.open_ b).1 (by omega) ho.1) ?_
      have hrl := read_length (Sl.open_ b).1
      by_cases h2 : (read (Sl.open_ b).1).2 = 0
      · rw [if_pos h2]
        refine Crc.Ev_ite_pos h2 ?_
        unfold midI
        by_cases h3 : (read (Sl.open_ b).1).1.length = 6
        · rw [if_pos h3]
          refine Crc.Ev_ite_pos (by rw [List.length_map]; omega) (Ev.bind (out_f _ (by omega)) ?_)
          cases h4 : (read (Sl.open_ b).1).1.any out with
          | true => rw [if_pos rfl]; exact decode_j1_true _ _
          | false => rw [if_neg (by decide)]; exact decode_j1 b _ h3
        · rw [if_neg h3]
          exact Crc.Ev_ite_neg (by rw [List.length_map]; omega) (decode_j1_true _ _)
      · rw [if_neg h2]
        exact Crc.Ev_ite_neg h2 (decode_j1_true _ _)
    · rw [if_neg h1, show ((Sl.open_ b).2.1 != (b.length : Int)) = true from by simpa using h1]
      exact decode_j0_true _ _
  · rw [if_neg h0]
    exact Crc.Ev_ite_neg h0 (decode_j0_true _ _)

/-! both decode alike: what the implementation seals again is what it opened just where the document's tests hold -/
theorem notbad_num {x : T} (h : bad x = false) (h1 : x.1 = false) : x = (false, x.2.1, e0) := by
  obtain ⟨b, n, s⟩ := x
  simp only at h1
  subst h1
  have h0 : s.toList = [] := by simpa [bad] using h
  have : s = e0 := by
    apply ByteArray.ext
    apply Array.ext'
    rw [ByteArray.toList_eq] at h0
    exact h0
  rw [this]
theorem notbad_text {x : T} (h : bad x = false) (h1 : x.1 = true) : x = (true, 0, x.2.2) := by
  obtain ⟨b, n, s⟩ := x
  simp only at h1
  subst h1
  have h0 : n = 0 := by simpa [bad] using h
  rw [h0]
theorem items_inj (t u : List T) (ht : t.length ≤ 4000) (hu : u.length ≤ 4000) (h1 : t.any bad = false) (h2 : u.any bad = false) (s1 : ∀ x ∈ t, x.2.2.size ≤ 1048576) (s2 : ∀ x ∈ u, x.2.2.size ≤ 1048576)
    (n1 : ∀ x ∈ t, -9223372036854775808 ≤ x.2.1 ∧ x.2.1 ≤ 9223372036854775807) (n2 : ∀ x ∈ u, -9223372036854775808 ≤ x.2.1 ∧ x.2.1 ≤ 9223372036854775807) (h : itemsBytes t = itemsBytes u) : t = u := by
  have e1 := read_items t ht h1 s1 n1
  have e2 := read_items u hu h2 s2 n2
  rw [h, e2] at e1
  exact (congrArg Prod.fst e1).symm
theorem msg_notbad (k i t : Int) (s : ByteArray) (a : Int) (o : Bool) : (msgItems k i t s a o).any bad = false := by
  have he : ∀ n : Int, bad (false, n, e0) = false := fun n => by
    show (!(e0.toList == ([] : List UInt8))) = false
    rw [show e0.toList = [] from by rw [ByteArray.toList_eq]]
    rfl
  simp [msgItems, he]
  rfl
theorem seal_inj {p q : List Int} (h : Sl.bseal p = Sl.bseal q) (hp : p.length ≤ 14000) (hq : q.length ≤ 14000) : p = q := by
  have l := congrArg List.length h
  rw [Sl.bseal_length, Sl.bseal_length] at l
  have e1 := (Sl.bseal_facts p hp).2.2.2
  have e2 := (Sl.bseal_facts q hq).2.2.2
  rw [← e1, ← e2, h, show p.length = q.length from by omega]
theorem encodeM_eq (k i t : Int) (s : ByteArray) (a : Int) (o : Bool) (h : formed k i t s a o = true) : encodeM k i t s a o = (Sl.bseal (itemsBytes (msgItems k i t s a o)), 0) ∧ (itemsBytes (msgItems k i t s a o)).length ≤ 14000 ∧ 0 < (itemsBytes (msgItems k i t s a o)).length := by
  have hf := (formed_iff ..).1 h
  have hi : items (msgItems k i t s a o) = (itemsBytes (msgItems k i t s a o), 0) := by
    unfold items
    rw [if_neg (by rw [msg_notbad]; decide), if_neg (by simp [msgItems])]
  have hl := items_length (msgItems k i t s a o)
  rw [hi] at hl
  have ht : tot (msgItems k i t s a o) ≤ 300 := by
    have := hf.2.2.2.2.2.2.2.2.1
    rw [tot_msg]
    omega
  have h0 : 0 < (itemsBytes (msgItems k i t s a o)).length := by
    unfold itemsBytes
    rw [List.length_append, Pk.number, List.length_cons]
    omega
  have hle : (itemsBytes (msgItems k i t s a o)).length ≤ 14000 := by simp only at hl; omega
  refine ⟨?_, hle, h0⟩
  unfold encodeM
  rw [if_pos h, hi]
  exact Sl.sealed_eq _ h0 hle

theorem decI_encode (k i t : Int) (s : ByteArray) (a : Int) (o : Bool) (h : formed k i t s a o = true) : decI (encodeM k i t s a o).1 = (k, i, t, s, a, o, 0) := by
  obtain ⟨g1, g2, g3⟩ := encodeM_eq _ _ _ _ _ _ h
  have hff := (formed_iff ..).1 h
  have hit : items (msgItems k i t s a o) = (itemsBytes (msgItems k i t s a o), 0) := by
    unfold items
    rw [if_neg (by rw [msg_notbad]; decide), if_neg (by simp [msgItems])]
  have hby := items_bytes (msgItems k i t s a o)
  rw [hit] at hby
  have ho := open_seal (itemsBytes (msgItems k i t s a o)) hby g3 g2
  have hr := read_items (msgItems k i t s a o) (by simp [msgItems]) (msg_notbad ..) (by
    intro x hx
    simp only [msgItems, List.mem_cons, List.not_mem_nil, or_false] at hx
    have := hff.2.2.2.2.2.2.2.2.1
    rcases hx with rfl | rfl | rfl | rfl | rfl | rfl <;> first | (show e0.size ≤ 1048576; decide) | (show s.size ≤ 1048576; omega)) (by
    intro x hx
    simp only [msgItems, List.mem_cons, List.not_mem_nil, or_false] at hx
    rcases hx with rfl | rfl | rfl | rfl | rfl | rfl <;> simp only <;> first | omega | (split <;> omega))
  have h5 : ((if o = true then (1 : Int) else 0) == 1) = o := by cases o <;> rfl
  rw [g1]
  unfold decI
  simp only
  rw [ho]
  simp only [if_true]
  rw [hr]
  simp only [if_true]
  unfold midI
  rw [if_pos (by simp [msgItems])]
  have hout : (msgItems k i t s a o).any out = false := by
    simp [msgItems, out]
    cases o <;> simp <;> omega
  rw [hout, if_neg (by decide)]
  show tailI _ [(false, k, e0), (false, i, e0), (false, t, e0), (true, 0, s), (false, a, e0), (false, (if o = true then 1 else 0), e0)] = _
  rw [tailI_eq]
  simp only
  rw [h5, g1]
  simp only [if_true]

def errOf (m : M7) : Int := m.2.2.2.2.2.2
/-- What the law asks of a sealed message. -/
theorem turned_facts (k i t : Int) (s : ByteArray) (a : Int) (o : Bool) (hf : formed k i t s a o = true) :
    ∃ b : List Int, encodeM k i t s a o = (b, 0) ∧ 0 < b.length ∧ b.length ≤ 14006 ∧ Sl.Bytes b ∧
      (∀ (j : Nat) (hj : j < b.length) (y : Int), 0 ≤ y ∧ y < 256 → ((errOf (decI (b.set j (Go.bits .xor .u8 b[j] y))) = 0 ↔ y = 0) ∧ Sl.Bytes (b.set j (Go.bits .xor .u8 b[j] y)))) ∧
      (∀ j : Nat, j < b.length → errOf (decI (b.take j)) = 2) ∧ (∀ y : Int, errOf (decI (b ++ [y])) = 2) := by
  obtain ⟨g1, g2, g3⟩ := encodeM_eq k i t s a o hf
  have hde := decI_encode k i t s a o hf
  have hit : items (msgItems k i t s a o) = (itemsBytes (msgItems k i t s a o), 0) := by
    unfold items
    rw [if_neg (by rw [msg_notbad]; decide), if_neg (by simp [msgItems])]
  have hby := items_bytes (msgItems k i t s a o)
  rw [hit] at hby
  generalize hp : itemsBytes (msgItems k i t s a o) = p at *
  have hlen := Sl.bseal_length p
  have hbb : Sl.Bytes (Sl.bseal p) := Sl.bseal_bytes _ hby
  obtain ⟨f1, f2, f3, f4⟩ := Sl.bseal_facts p g2
  rw [g1] at hde
  simp only [] at hde
  generalize hB : Sl.bseal p = b at *
  have herr : ∀ l : List Int, (Sl.open_ l).2.2 ≠ 0 → decI l = err7 := fun l h => by unfold decI; rw [if_neg h]
  refine ⟨b, g1, by omega, by omega, hbb, fun j hj y hy => ?_, fun j hj => ?_, fun y => ?_⟩
  · have hx := Sl.xor_range b[j] y
    have hturn := Sl.open_turned hlen hbb f1 g3 g2 f2 f3 [] j hj _ hx
    rw [List.append_nil] at hturn
    have hi := Sl.xor_self_iff (hbb b[j] (List.getElem_mem hj)) hy
    refine ⟨⟨fun h => ?_, fun h => ?_⟩, hbb.set j hx⟩
    · apply Classical.byContradiction
      intro hne
      rw [herr _ (fun e => hne (hi.1 (hturn.1 e)))] at h
      exact absurd h (by decide)
    · rw [hi.2 h, List.set_getElem_self, hde]
      rfl
  · rw [herr _ (by rw [Sl.open_cut hlen f1 g3 g2 f2 j hj]; decide)]
    rfl
  · have hg := Sl.open_good hlen f1 g3 g2 f2 f3 [y]
    have e : decI (b ++ [y]) = err7 := by
      unfold decI
      rw [hg, if_pos rfl, if_neg (by simp only [List.length_append, List.length_singleton]; omega)]
    rw [e]
    rfl
theorem ev_at {α : Type} {g : Nat → Option α} {r : α} (h : Ev g r) : ∃ k, g k = some r := by
  obtain ⟨K, hK⟩ := h
  exact ⟨K, hK K (Nat.le_refl _)⟩

end Go.Proofs.Ytdglbiafpofeeaa.Pure
