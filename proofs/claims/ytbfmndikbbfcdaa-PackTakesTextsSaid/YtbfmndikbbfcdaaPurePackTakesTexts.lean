/- PackTakesTexts: of any bytes the text is taken that the document says, or none; no condition. -/
import Derived.Test.YtbfmndikbbfcdaaPPackTakesTextsx3
import Derived.Test.YtbfmndikbbfcdaaBack
namespace Go.Proofs.Ytbfmndikbbfcdaa.Pure
open Go.RowKit Go.Proofs.Ytbfmndikbbfcdaa.PPackTakesTexts Go.Proofs.YtbfmndikbbfcdaaW.PrintWords Go.Proofs.YtbfmndikbbfcdaaW.PrintLast

theorem width_l0 (n : Int) : ∀ (d w : Nat), w + d = 8 → 0 < w → Ev (fun k => pack_width.l0 k n (w : Int)) ((Pk.widLoop d w n : Nat) : Int)
  | 0, w, hw, _ => by
    refine Ev.step (fun k => by rw [pack_width.l0, if_neg (by omega)]; rfl) (Crc.Ev_val rfl)
  | d + 1, w, hw, h0 => by
    have ih := width_l0 n d (w + 1) (by omega) (by omega)
    refine Ev.step (fun k => by rw [pack_width.l0, if_pos (by omega), Crc.wrap64_id (n := 8 * (w : Int)) (by omega) (by omega), Crc.wrap64_id (n := 8 * (w : Int) - 1) (by omega) (by omega), if_pos (by omega), Pk.shr_at n w (by omega) h0]) ?_
    unfold Pk.widLoop
    by_cases h1 : n / 2 ^ (8 * w - 1) = 0
    · rw [if_pos (Or.inl h1)]
      exact Crc.Ev_ite_pos h1 (Crc.Ev_val rfl)
    · refine Crc.Ev_ite_neg h1 ?_
      by_cases h2 : n / 2 ^ (8 * w - 1) = -1
      · rw [if_pos (Or.inr h2)]
        exact Crc.Ev_ite_pos h2 (Crc.Ev_val rfl)
      · refine Crc.Ev_ite_neg h2 ?_
        rw [if_neg (fun h => h.elim h1 h2), Crc.wrap64_id (by omega) (by omega)]
        exact ih
theorem width_f (n : Int) : Ev (fun k => pack_width.f k n) (Pk.wid n : Int) := by
  unfold pack_width.f Pk.wid
  by_cases h : n = 0
  · rw [if_pos h]
    exact Crc.Ev_ite_pos h (Ev.now 0)
  · rw [if_neg h]
    exact Crc.Ev_ite_neg h (width_l0 n 7 1 (by omega) (by omega))
theorem takeNum_l0 (w : Nat) (hw : w ≤ 8) (l : List Int) (hl : l.length = w) (hb : ∀ c ∈ l, 0 ≤ c ∧ c < 256) :
    ∀ (d i : Nat) (x : Int), i + d = w → (0 < i → Pk.Fits i x) → (i = 0 → x = 0) → (0 < i → (l.drop i).foldl (fun x d => x * 256 + d) x = Pk.val l) →
    Ev (fun k => pack_TakeNumber.l0 k (w : Int) x l (l.length : Int) (i : Int)) (if Pk.wid (Pk.val l) = w then (Pk.val l, 1 + (w : Int), 0) else (0, 0, 2))
  | 0, i, x, hi, hf, hz, hv => by
    have hx : x = Pk.val l := by
      rcases Nat.eq_zero_or_pos i with h0 | h0
      · have : l = [] := List.eq_nil_of_length_eq_zero (by omega)
        rw [hz h0, this]
        rfl
      · have := hv h0
        rwa [List.drop_of_length_le (by omega)] at this
    subst hx
    refine Ev.step (fun k => by rw [pack_TakeNumber.l0, if_neg (by omega)]) (Ev.bind (width_f _) ?_)
    by_cases h : Pk.wid (Pk.val l) = w
    · rw [if_pos h]
      refine Crc.Ev_ite_pos (by omega) (Crc.Ev_val ?_)
      rw [Crc.wrap64_id (by omega) (by omega)]
    · rw [if_neg h]
      exact Crc.Ev_ite_neg (by omega) (Ev.now _)
  | d + 1, i, x, hi, hf, hz, hv => by
    have hlt : i < l.length := by omega
    have hrd : rd l (i : Int) = l[i] := by simp [rd, List.getD_eq_getElem?_getD, List.getElem?_eq_getElem hlt]
    have hc := hb l[i] (List.getElem_mem hlt)
    refine Ev.step (fun k => by rw [pack_TakeNumber.l0, if_pos (by omega), if_pos (by omega), if_pos (by omega), hrd]) ?_
    have hw1 : wrap64 ((i : Int) + 1) = ((i + 1 : Nat) : Int) := by rw [Crc.wrap64_id (by omega) (by omega)]; omega
    by_cases h0 : i = 0
    · subst h0
      refine Crc.Ev_ite_pos rfl ?_
      rw [hw1, Pk.i8_wrap _ hc.1 hc.2, Crc.wrap64_id (by unfold Pk.i8; split <;> omega) (by unfold Pk.i8; split <;> omega)]
      refine takeNum_l0 w hw l hl hb d 1 _ (by omega) (fun _ => Pk.fits_i8 _ hc.1 hc.2) (by omega) (fun _ => ?_)
      cases l with
      | nil => cases hlt
      | cons c l => rfl
    · refine Crc.Ev_ite_neg (by omega) ?_
      have hfi := hf (by omega)
      have hr := Pk.fits_range hfi (by omega)
      have hr1 := Pk.fits_range (Pk.fits_snoc' i x 0 (by omega) hfi (by omega) (by omega)) (by omega)
      rw [hw1, Crc.wrap64_id (n := l[i]) (by omega) (by omega), Crc.wrap64_id (n := x * 256) (by omega) (by omega), Pk.or_byte x _ hc.1 hc.2 ⟨by omega, by omega⟩]
      refine takeNum_l0 w hw l hl hb d (i + 1) _ (by omega) (fun _ => Pk.fits_snoc' i x _ (by omega) hfi hc.1 hc.2) (by omega) (fun _ => ?_)
      have := hv (by omega)
      rw [List.drop_eq_getElem_cons hlt, List.foldl_cons] at this
      exact this
theorem takeNum_f (l : List Int) (hl : l.length ≤ 140737488355328) (hb : ∀ c ∈ l, 0 ≤ c ∧ c < 256) : Ev (fun k => pack_TakeNumber.f k l) (Pk.take l) := by
  unfold pack_TakeNumber.f
  cases l with
  | nil => exact Crc.Ev_ite_pos rfl (Ev.now _)
  | cons w l =>
    have hw := hb w (List.mem_cons_self ..)
    have hrd : rd (w :: l) 0 = w := rfl
    rw [hrd, Crc.wrap64_id (n := w) (by omega) (by omega), Crc.wrap64_id (n := 1 + w) (by omega) (by omega)]
    simp only [List.length_cons] at hl ⊢
    unfold Pk.take
    simp only
    refine Crc.Ev_ite_neg (by omega) (Crc.Ev_ite_pos (by omega) ?_)
    by_cases h8 : 8 < w
    · rw [if_pos h8]
      exact Crc.Ev_ite_pos h8 (Ev.now _)
    · rw [if_neg h8]
      refine Crc.Ev_ite_neg h8 ?_
      by_cases hs : (l.length : Int) < w
      · rw [if_pos hs]
        exact Crc.Ev_ite_pos (by omega) (Ev.now _)
      · rw [if_neg hs]
        refine Crc.Ev_ite_neg (by omega) (Crc.Ev_ite_pos (by omega) (Crc.Ev_ite_pos (by omega) ?_))
        obtain ⟨v, rfl⟩ := Int.eq_ofNat_of_zero_le hw.1
        have hcut : ((((v : Nat) : Int) :: l).take ((1 + (v : Int)) : Int).toNat).drop 1 = l.take v := by
          rw [show ((1 + (v : Int)) : Int).toNat = v + 1 from by omega]
          rfl
        rw [hcut, Int.toNat_natCast]
        exact takeNum_l0 v (by omega) (l.take v) (by rw [List.length_take]; omega) (fun c h => hb c (List.mem_cons_of_mem _ (List.mem_of_mem_take h))) v 0 0 (by omega) (by omega) (fun _ => rfl) (by omega)

theorem least_l1 (n : Int) : ∀ (j : Nat) (acc : List Int), acc.length + j ≤ 8 → Ev (fun k => tumbrelref01_least.l1 k n acc ((j : Int) - 1)) (acc ++ Pk.be j n)
  | 0, acc, _ => by
    refine Ev.step (fun k => by rw [tumbrelref01_least.l1, if_neg (by omega)]) (Crc.Ev_val (by simp [Pk.be]))
  | j + 1, acc, h => by
    have ih := least_l1 n j (acc ++ [(n / 2 ^ (8 * j)) % 256]) (by rw [List.length_append, List.length_singleton]; omega)
    have e : ((j + 1 : Nat) : Int) - 1 = (j : Int) := by omega
    rw [e]
    refine Ev.step (fun k => by rw [tumbrelref01_least.l1, if_pos (by omega), Crc.wrap64_id (n := 8 * (j : Int)) (by omega) (by omega), Pk.u64_id (by omega) (by omega), if_pos (by omega), if_pos (by omega), Pk.shr_byte n j (by omega), Crc.wrap64_id (n := (j : Int) - 1) (by omega) (by omega)]) ?_
    rw [List.append_assoc] at ih
    exact ih
theorem least_j1 (n : Int) (w : Nat) (hw : w ≤ 8) : Ev (fun k => tumbrelref01_least.j1 k n (w : Int)) (Pk.be w n) := by
  refine Ev.step (fun k => by rw [tumbrelref01_least.j1, Crc.wrap64_id (by omega) (by omega)]) ?_
  exact least_l1 n w [] (by simpa using hw)
theorem least_l0 (n : Int) : ∀ (d w : Nat), w + d = 8 → 0 < w → Ev (fun k => tumbrelref01_least.l0 k n (w : Int)) (Pk.be (Pk.widLoop d w n) n)
  | 0, w, hw, _ => by
    refine Ev.step (fun k => by rw [tumbrelref01_least.l0, if_neg (by omega)]) (least_j1 n w (by omega))
  | d + 1, w, hw, h0 => by
    have ih := least_l0 n d (w + 1) (by omega) (by omega)
    refine Ev.step (fun k => by rw [tumbrelref01_least.l0, if_pos (by omega), Crc.wrap64_id (n := 8 * (w : Int)) (by omega) (by omega), Crc.wrap64_id (n := 8 * (w : Int) - 1) (by omega) (by omega), Pk.u64_id (by omega) (by omega), if_pos (by omega), Pk.shr_at n w (by omega) h0]) ?_
    unfold Pk.widLoop
    by_cases h1 : n / 2 ^ (8 * w - 1) = 0
    · rw [if_pos (Or.inl h1)]
      exact Crc.Ev_ite_pos h1 (least_j1 n w (by omega))
    · refine Crc.Ev_ite_neg h1 ?_
      by_cases h2 : n / 2 ^ (8 * w - 1) = -1
      · rw [if_pos (Or.inr h2)]
        exact Crc.Ev_ite_pos h2 (least_j1 n w (by omega))
      · refine Crc.Ev_ite_neg h2 ?_
        rw [if_neg (fun h => h.elim h1 h2), Crc.wrap64_id (by omega) (by omega)]
        exact ih
theorem least_f (n : Int) : Ev (fun k => tumbrelref01_least.f k n) (Pk.be (Pk.wid n) n) := by
  unfold tumbrelref01_least.f Pk.wid
  by_cases h : n = 0
  · rw [if_pos h]
    exact Crc.Ev_ite_pos h (Ev.now [])
  · rw [if_neg h]
    exact Crc.Ev_ite_neg h (least_l0 n 7 1 (by omega) (by omega))
theorem refNumber_f (n : Int) : Ev (fun k => tumbrelref01_Number.f k n) (Pk.number n) := by
  have hw := Pk.wid_le n
  unfold tumbrelref01_Number.f
  refine Ev.bind (least_f n) (Crc.Ev_let ?_)
  rw [Pk.be_length]
  refine Crc.Ev_ite_pos (by simp; omega) (Crc.Ev_val ?_)
  rw [Int.emod_eq_of_lt (by omega) (by omega)]
  rfl
theorem refTake_l0 (w : Nat) (hw : w ≤ 8) (l : List Int) (hl : l.length ≤ 140737488355328) (hn : w ≤ l.length) (hb : ∀ c ∈ l, 0 ≤ c ∧ c < 256) :
    ∀ (d i : Nat) (x : Int), i + d = w ∨ (w = 0 ∧ i = 1 ∧ d = 0) → 0 < i → (0 < w → Pk.Fits i x) → (w = 0 → x = 0) → (0 < w → ((l.take w).drop i).foldl (fun x d => x * 256 + d) x = Pk.val (l.take w)) →
    Ev (fun k => tumbrelref01_TakeNumber.l0 k ((w : Int) :: l) (w : Int) x (i : Int)) (if Pk.wid (Pk.val (l.take w)) = w then (Pk.val (l.take w), 1 + (w : Int), 0) else (0, 0, 2))
  | 0, i, x, hi, h0, hf, hz, hv => by
    have htl : (l.take w).length = w := by rw [List.length_take]; omega
    have hx : x = Pk.val (l.take w) := by
      rcases Nat.eq_zero_or_pos w with h0 | h0
      · subst h0
        rw [hz rfl]
        rfl
      · have := hv h0
        rwa [List.drop_of_length_le (by omega)] at this
    subst hx
    have hbt : ∀ c ∈ l.take w, 0 ≤ c ∧ c < 256 := fun c h => hb c (List.mem_of_mem_take h)
    refine Ev.step (fun k => by rw [tumbrelref01_TakeNumber.l0, if_neg (by omega)]) (Ev.bind (refNumber_f _) ?_)
    have hlen : (((((w : Nat) : Int) :: l).length : Nat) : Int) = (l.length : Int) + 1 := by rw [List.length_cons]; omega
    rw [Crc.wrap64_id (by omega) (by omega), hlen]
    refine Crc.Ev_ite_pos (by omega) (Crc.Ev_ite_pos (by omega) ?_)
    have hcut : (((w : Nat) : Int) :: l).take ((1 + (w : Int)) : Int).toNat = (w : Int) :: l.take w := by
      rw [show ((1 + (w : Int)) : Int).toNat = w + 1 from by omega]
      rfl
    rw [hcut]
    by_cases h : Pk.wid (Pk.val (l.take w)) = w
    · rw [if_pos h]
      have e : Pk.number (Pk.val (l.take w)) = (w : Int) :: l.take w := by
        unfold Pk.number
        rw [h]
        congr 1
        have := Pk.be_val (l.take w) hbt
        rwa [htl] at this
      rw [e]
      exact Crc.Ev_ite_pos rfl (Ev.now _)
    · rw [if_neg h]
      refine Crc.Ev_ite_neg (fun e => h ?_) (Ev.now _)
      have e' := Pk.str_inj (by
        intro c hc
        rcases List.mem_cons.1 hc with rfl | hc
        · have := Pk.wid_le (Pk.val (l.take w)); omega
        · exact Pk.be_byte _ _ c hc) (by
        intro c hc
        rcases List.mem_cons.1 hc with rfl | hc
        · omega
        · exact hbt c hc) e
      injection e' with e1 _
      omega
  | d + 1, i, x, hi, h0, hf, hz, hv => by
    have hlt : i < l.length := by omega
    have hrd : rd ((w : Int) :: l) ((i + 1 : Nat) : Int) = l[i] := by simp [rd, List.getD_eq_getElem?_getD, List.getElem?_eq_getElem hlt]
    have hc := hb l[i] (List.getElem_mem hlt)
    have hfi := hf (by omega)
    have hr := Pk.fits_range hfi (by omega)
    have hr1 := Pk.fits_range (Pk.fits_snoc' i x 0 (by omega) hfi (by omega) (by omega)) (by omega)
    have e1 : wrap64 (1 + (i : Int)) = ((i + 1 : Nat) : Int) := by rw [Crc.wrap64_id (by omega) (by omega)]; omega
    have e2 : wrap64 ((i : Int) + 1) = ((i + 1 : Nat) : Int) := by rw [Crc.wrap64_id (by omega) (by omega)]; omega
    have hlen : (((((w : Nat) : Int) :: l).length : Nat) : Int) = (l.length : Int) + 1 := by rw [List.length_cons]; omega
    refine Ev.step (fun k => by rw [tumbrelref01_TakeNumber.l0, if_pos (by omega), e1, e2, hrd, if_pos (by omega), if_pos (by omega), Crc.wrap64_id (n := l[i]) (by omega) (by omega), Crc.wrap64_id (n := x * 256) (by omega) (by omega), Pk.or_byte x _ hc.1 hc.2 ⟨by omega, by omega⟩]) ?_
    refine refTake_l0 w hw l hl hn hb d (i + 1) _ (by omega) (by omega) (fun _ => Pk.fits_snoc' i x _ (by omega) hfi hc.1 hc.2) (by omega) (fun hw0 => ?_)
    have := hv hw0
    rw [List.drop_eq_getElem_cons (by rw [List.length_take]; omega), List.foldl_cons, List.getElem_take] at this
    exact this
theorem refTake_j0 (w : Nat) (l : List Int) (r : Int × Int × Int) (y : Int) (h : Ev (fun k => tumbrelref01_TakeNumber.l0 k ((w : Int) :: l) (w : Int) y 1) r) : Ev (fun k => tumbrelref01_TakeNumber.j0 k ((w : Int) :: l) (w : Int) y) r :=
  Ev.step (fun k => by rw [tumbrelref01_TakeNumber.j0]) h
theorem refTake_f (l : List Int) (hl : l.length ≤ 140737488355328) (hb : ∀ c ∈ l, 0 ≤ c ∧ c < 256) : Ev (fun k => tumbrelref01_TakeNumber.f k l) (Pk.take l) := by
  unfold tumbrelref01_TakeNumber.f
  cases l with
  | nil => exact Crc.Ev_ite_pos rfl (Ev.now _)
  | cons w l =>
    have hw := hb w (List.mem_cons_self ..)
    have hb' : ∀ c ∈ l, 0 ≤ c ∧ c < 256 := fun c h => hb c (List.mem_cons_of_mem _ h)
    have hrd : rd (w :: l) 0 = w := rfl
    rw [hrd, Crc.wrap64_id (n := w) (by omega) (by omega), Crc.wrap64_id (n := 1 + w) (by omega) (by omega)]
    have hlen : (((w :: l).length : Nat) : Int) = (l.length : Int) + 1 := by rw [List.length_cons]; omega
    rw [hlen]
    have hl' : l.length ≤ 140737488355328 := by rw [List.length_cons] at hl; omega
    unfold Pk.take
    simp only
    refine Crc.Ev_ite_neg (by omega) (Crc.Ev_ite_pos (by omega) ?_)
    by_cases h8 : 8 < w
    · rw [if_pos h8]
      exact Crc.Ev_ite_pos h8 (Ev.now _)
    · rw [if_neg h8]
      refine Crc.Ev_ite_neg h8 ?_
      by_cases hs : (l.length : Int) < w
      · rw [if_pos hs]
        exact Crc.Ev_ite_pos (by omega) (Ev.now _)
      · rw [if_neg hs]
        refine Crc.Ev_ite_neg (by omega) ?_
        obtain ⟨v, rfl⟩ := Int.eq_ofNat_of_zero_le hw.1
        rw [Int.toNat_natCast]
        rcases Nat.eq_zero_or_pos v with h0 | h0
        · subst h0
          exact Crc.Ev_ite_neg (by omega) (refTake_j0 0 l _ 0 (refTake_l0 0 (by omega) l hl' (by omega) hb' 0 1 0 (by omega) (by omega) (by omega) (fun _ => rfl) (by omega)))
        · refine Crc.Ev_ite_pos (by omega) (Crc.Ev_ite_pos (by omega) ?_)
          cases l with
          | nil => simp at hs; omega
          | cons c l =>
            have hc := hb' c (List.mem_cons_self ..)
            have hrd1 : rd ((v : Int) :: c :: l) 1 = c := rfl
            rw [hrd1, Pk.i8_wrap _ hc.1 hc.2, Crc.wrap64_id (by unfold Pk.i8; split <;> omega) (by unfold Pk.i8; split <;> omega)]
            refine refTake_j0 v (c :: l) _ _ (refTake_l0 v (by omega) (c :: l) hl' (by omega) hb' (v - 1) 1 _ (by omega) (by omega) (fun _ => Pk.fits_i8 _ hc.1 hc.2) (by omega) (fun _ => ?_))
            obtain ⟨u, rfl⟩ : ∃ u, v = u + 1 := ⟨v - 1, by omega⟩
            rfl

theorem takeText_f (l : List Int) (hl : l.length ≤ 140737488355328) (hb : ∀ c ∈ l, 0 ≤ c ∧ c < 256) : Ev (fun k => pack_TakeText.f k l) (Pk.takeText l) := by
  unfold pack_TakeText.f Pk.takeText
  refine Ev.bind (takeNum_f l hl hb) ?_
  have hk := Pk.take_ok l hb
  generalize Pk.take l = t at *
  obtain ⟨n, k, e⟩ := t
  simp only at hk ⊢
  by_cases h0 : e = 0
  · simp only [if_pos h0]
    obtain ⟨k1, k2, k3⟩ := hk h0
    rw [Crc.wrap64_id (n := (l.length : Int) - k) (by omega) (by omega)]
    by_cases h1 : n < 0
    · simp only [if_pos h1]
      exact Ev.now _
    · simp only [if_neg h1]
      by_cases h2 : n > (l.length : Int) - k
      · simp only [if_pos h2]
        exact Ev.now _
      · simp only [if_neg h2]
        rw [Crc.wrap64_id (n := k + n) (by omega) (by omega)]
        exact Crc.Ev_ite_pos (by omega) (Crc.Ev_ite_pos (by omega) (Crc.Ev_ite_pos (by omega) (Ev.now _)))
  · simp only [if_neg h0]
    exact Ev.now _

theorem refTakeText_f (l : List Int) (hl : l.length ≤ 140737488355328) (hb : ∀ c ∈ l, 0 ≤ c ∧ c < 256) : Ev (fun k => tumbrelref01_TakeText.f k l) (Pk.takeText l) := by
  unfold tumbrelref01_TakeText.f Pk.takeText
  refine Ev.bind (refTake_f l hl hb) ?_
  have hk := Pk.take_ok l hb
  generalize Pk.take l = t at *
  obtain ⟨n, k, e⟩ := t
  simp only at hk ⊢
  by_cases h0 : e = 0
  · simp only [if_pos h0]
    obtain ⟨k1, k2, k3⟩ := hk h0
    rw [Crc.wrap64_id (n := (l.length : Int) - k) (by omega) (by omega)]
    by_cases h1 : n < 0
    · simp only [if_pos h1]
      exact Ev.now _
    · simp only [if_neg h1]
      by_cases h2 : n > (l.length : Int) - k
      · simp only [if_pos h2]
        exact Ev.now _
      · simp only [if_neg h2]
        rw [Crc.wrap64_id (n := k + n) (by omega) (by omega)]
        exact Crc.Ev_ite_pos (by omega) (Crc.Ev_ite_pos (by omega) (Crc.Ev_ite_pos (by omega) (Ev.now _)))
  · simp only [if_neg h0]
    exact Ev.now _

theorem PackTakesTexts : tumbrellaw01_PackTakesTexts.Pure := by
  intro l0 hl _ hw
  unfold maxLen at hl
  have hb := Pk.bytes_of hw
  have hl' : l0.length ≤ 140737488355328 := by omega
  refine Ev.rounds (g := fun k => tumbrellaw01_PackTakesTexts.f k l0) ?_
  refine Ev.bind (takeText_f l0 hl' hb) (Ev.bind (refTakeText_f l0 hl' hb) (Ev.bind (takeText_f [1, 1, 120] (by decide) (by decide)) ?_))
  exact Crc.Ev_ite_pos rfl (Crc.Ev_ite_pos rfl (Crc.Ev_ite_pos rfl (Crc.Ev_ite_pos (by decide +kernel) (Crc.Ev_val (by decide +kernel)))))

end Go.Proofs.Ytbfmndikbbfcdaa.Pure
