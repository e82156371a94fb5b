/- PackReads: any bytes are the items that the document says, or none; no condition. -/
import Derived.Test.YtbfmndikbbfcdaaPPackReadsx6
import Derived.Test.YtbfmndikbbfcdaaBack
namespace Go.Proofs.Ytbfmndikbbfcdaa.Pure
open Go.RowKit Go.Proofs.Ytbfmndikbbfcdaa.PPackReads Go.Proofs.YtbfmndikbbfcdaaW.PrintWords Go.Proofs.YtbfmndikbbfcdaaW.PrintLast

theorem width_l0 (n : Int) : ∀ (d w : Nat), w + d = 8 → 0 < w → Ev (fun k => pack_width.l0 k n (w : Int)) ((Pk.widLoop d w n : Nat) : Int)
  | 0, w, hw, _ => by
    refine Ev.step (fun k => by rw [pack_width.l0, if_neg (by omega)]; rfl) (Crc.Ev_val rfl)
  | d + 1, w, hw, h0 => by
    have ih := width_l0 n d (w + 1) (by omega) (by omega)
    refine Ev.step (fun k => by rw [pack_width.l0, if_pos (by omega), Crc.wrap64_id (n := 8 * (w : Int)) (by omega) (by omega), Crc.wrap64_id (n := 8 * (w : Int) - 1) (by omega) (by omega), if_pos (by omega), Pk.shr_at n w (by omega) h0]) ?_
    unfold Pk.widLoop
    by_cases h1 : n / 2 ^ (8 * w - 1) = 0
    · rw [if_pos (Or.inl h1)]
      exact Crc.Ev_ite_pos h1 (Crc.Ev_val rfl)
    · refine Crc.Ev_ite_neg h1 ?_
      by_cases h2 : n / 2 ^ (8 * w - 1) = -1
      · rw [if_pos (Or.inr h2)]
        exact Crc.Ev_ite_pos h2 (Crc.Ev_val rfl)
      · refine Crc.Ev_ite_neg h2 ?_
        rw [if_neg (fun h => h.elim h1 h2), Crc.wrap64_id (by omega) (by omega)]
        exact ih
theorem width_f (n : Int) : Ev (fun k => pack_width.f k n) (Pk.wid n : Int) := by
  unfold pack_width.f Pk.wid
  by_cases h : n = 0
  · rw [if_pos h]
    exact Crc.Ev_ite_pos h (Ev.now 0)
  · rw [if_neg h]
    exact Crc.Ev_ite_neg h (width_l0 n 7 1 (by omega) (by omega))
theorem takeNum_l0 (w : Nat) (hw : w ≤ 8) (l : List Int) (hl : l.length = w) (hb : ∀ c ∈ l, 0 ≤ c ∧ c < 256) :
    ∀ (d i : Nat) (x : Int), i + d = w → (0 < i → Pk.Fits i x) → (i = 0 → x = 0) → (0 < i → (l.drop i).foldl (fun x d => x * 256 + d) x = Pk.val l) →
    Ev (fun k => pack_TakeNumber.l0 k (w : Int) x l (l.length : Int) (i : Int)) (if Pk.wid (Pk.val l) = w then (Pk.val l, 1 + (w : Int), 0) else (0, 0, 2))
  | 0, i, x, hi, hf, hz, hv => by
    have hx : x = Pk.val l := by
      rcases Nat.eq_zero_or_pos i with h0 | h0
      · have : l = [] := List.eq_nil_of_length_eq_zero (by omega)
        rw [hz h0, this]
        rfl
      · have := hv h0
        rwa [List.drop_of_length_le (by omega)] at this
    subst hx
    refine Ev.step (fun k => by rw [pack_TakeNumber.l0, if_neg (by omega)]) (Ev.bind (width_f _) ?_)
    by_cases h : Pk.wid (Pk.val l) = w
    · rw [if_pos h]
      refine Crc.Ev_ite_pos (by omega) (Crc.Ev_val ?_)
      rw [Crc.wrap64_id (by omega) (by omega)]
    · rw [if_neg h]
      exact Crc.Ev_ite_neg (by omega) (Ev.now _)
  | d + 1, i, x, hi, hf, hz, hv => by
    have hlt : i < l.length := by omega
    have hrd : rd l (i : Int) = l[i] := by simp [rd, List.getD_eq_getElem?_getD, List.getElem?_eq_getElem hlt]
    have hc := hb l[i] (List.getElem_mem hlt)
    refine Ev.step (fun k => by rw [pack_TakeNumber.l0, if_pos (by omega), if_pos (by omega), if_pos (by omega), hrd]) ?_
    have hw1 : wrap64 ((i : Int) + 1) = ((i + 1 : Nat) : Int) := by rw [Crc.wrap64_id (by omega) (by omega)]; omega
    by_cases h0 : i = 0
    · subst h0
      refine Crc.Ev_ite_pos rfl ?_
      rw [hw1, Pk.i8_wrap _ hc.1 hc.2, Crc.wrap64_id (by unfold Pk.i8; split <;> omega) (by unfold Pk.i8; split <;> omega)]
      refine takeNum_l0 w hw l hl hb d 1 _ (by omega) (fun _ => Pk.fits_i8 _ hc.1 hc.2) (by omega) (fun _ => ?_)
      cases l with
      | nil => cases hlt
      | cons c l => rfl
    · refine Crc.Ev_ite_neg (by omega) ?_
      have hfi := hf (by omega)
      have hr := Pk.fits_range hfi (by omega)
      have hr1 := Pk.fits_range (Pk.fits_snoc' i x 0 (by omega) hfi (by omega) (by omega)) (by omega)
      rw [hw1, Crc.wrap64_id (n := l[i]) (by omega) (by omega), Crc.wrap64_id (n := x * 256) (by omega) (by omega), Pk.or_byte x _ hc.1 hc.2 ⟨by omega, by omega⟩]
      refine takeNum_l0 w hw l hl hb d (i + 1) _ (by omega) (fun _ => Pk.fits_snoc' i x _ (by omega) hfi hc.1 hc.2) (by omega) (fun _ => ?_)
      have := hv (by omega)
      rw [List.drop_eq_getElem_cons hlt, List.foldl_cons] at this
      exact this
theorem takeNum_f (l : List Int) (hl : l.length ≤ 140737488355328) (hb : ∀ c ∈ l, 0 ≤ c ∧ c < 256) : Ev (fun k => pack_TakeNumber.f k l) (Pk.take l) := by
  unfold pack_TakeNumber.f
  cases l with
  | nil => exact Crc.Ev_ite_pos rfl (Ev.now _)
  | cons w l =>
    have hw := hb w (List.mem_cons_self ..)
    have hrd : rd (w :: l) 0 = w := rfl
    rw [hrd, Crc.wrap64_id (n := w) (by omega) (by omega), Crc.wrap64_id (n := 1 + w) (by omega) (by omega)]
    simp only [List.length_cons] at hl ⊢
    unfold Pk.take
    simp only
    refine Crc.Ev_ite_neg (by omega) (Crc.Ev_ite_pos (by omega) ?_)
    by_cases h8 : 8 < w
    · rw [if_pos h8]
      exact Crc.Ev_ite_pos h8 (Ev.now _)
    · rw [if_neg h8]
      refine Crc.Ev_ite_neg h8 ?_
      by_cases hs : (l.length : Int) < w
      · rw [if_pos hs]
        exact Crc.Ev_ite_pos (by omega) (Ev.now _)
      · rw [if_neg hs]
        refine Crc.Ev_ite_neg (by omega) (Crc.Ev_ite_pos (by omega) (Crc.Ev_ite_pos (by omega) ?_))
        obtain ⟨v, rfl⟩ := Int.eq_ofNat_of_zero_le hw.1
        have hcut : ((((v : Nat) : Int) :: l).take ((1 + (v : Int)) : Int).toNat).drop 1 = l.take v := by
          rw [show ((1 + (v : Int)) : Int).toNat = v + 1 from by omega]
          rfl
        rw [hcut, Int.toNat_natCast]
        exact takeNum_l0 v (by omega) (l.take v) (by rw [List.length_take]; omega) (fun c h => hb c (List.mem_cons_of_mem _ (List.mem_of_mem_take h))) v 0 0 (by omega) (by omega) (fun _ => rfl) (by omega)

theorem least_l1 (n : Int) : ∀ (j : Nat) (acc : List Int), acc.length + j ≤ 8 → Ev (fun k => tumbrelref01_least.l1 k n acc ((j : Int) - 1)) (acc ++ Pk.be j n)
  | 0, acc, _ => by
    refine Ev.step (fun k => by rw [tumbrelref01_least.l1, if_neg (by omega)]) (Crc.Ev_val (by simp [Pk.be]))
  | j + 1, acc, h => by
    have ih := least_l1 n j (acc ++ [(n / 2 ^ (8 * j)) % 256]) (by rw [List.length_append, List.length_singleton]; omega)
    have e : ((j + 1 : Nat) : Int) - 1 = (j : Int) := by omega
    rw [e]
    refine Ev.step (fun k => by rw [tumbrelref01_least.l1, if_pos (by omega), Crc.wrap64_id (n := 8 * (j : Int)) (by omega) (by omega), Pk.u64_id (by omega) (by omega), if_pos (by omega), if_pos (by omega), Pk.shr_byte n j (by omega), Crc.wrap64_id (n := (j : Int) - 1) (by omega) (by omega)]) ?_
    rw [List.append_assoc] at ih
    exact ih
theorem least_j1 (n : Int) (w : Nat) (hw : w ≤ 8) : Ev (fun k => tumbrelref01_least.j1 k n (w : Int)) (Pk.be w n) := by
  refine Ev.step (fun k => by rw [tumbrelref01_least.j1, Crc.wrap64_id (by omega) (by omega)]) ?_
  exact least_l1 n w [] (by simpa using hw)
theorem least_l0 (n : Int) : ∀ (d w : Nat), w + d = 8 → 0 < w → Ev (fun k => tumbrelref01_least.l0 k n (w : Int)) (Pk.be (Pk.widLoop d w n) n)
  | 0, w, hw, _ => by
    refine Ev.step (fun k => by rw [tumbrelref01_least.l0, if_neg (by omega)]) (least_j1 n w (by omega))
  | d + 1, w, hw, h0 => by
    have ih := least_l0 n d (w + 1) (by omega) (by omega)
    refine Ev.step (fun k => by rw [tumbrelref01_least.l0, if_pos (by omega), Crc.wrap64_id (n := 8 * (w : Int)) (by omega) (by omega), Crc.wrap64_id (n := 8 * (w : Int) - 1) (by omega) (by omega), Pk.u64_id (by omega) (by omega), if_pos (by omega), Pk.shr_at n w (by omega) h0]) ?_
    unfold Pk.widLoop
    by_cases h1 : n / 2 ^ (8 * w - 1) = 0
    · rw [if_pos (Or.inl h1)]
      exact Crc.Ev_ite_pos h1 (least_j1 n w (by omega))
    · refine Crc.Ev_ite_neg h1 ?_
      by_cases h2 : n / 2 ^ (8 * w - 1) = -1
      · rw [if_pos (Or.inr h2)]
        exact Crc.Ev_ite_pos h2 (least_j1 n w (by omega))
      · refine Crc.Ev_ite_neg h2 ?_
        rw [if_neg (fun h => h.elim h1 h2), Crc.wrap64_id (by omega) (by omega)]
        exact ih
theorem least_f (n : Int) : Ev (fun k => tumbrelref01_least.f k n) (Pk.be (Pk.wid n) n) := by
  unfold tumbrelref01_least.f Pk.wid
  by_cases h : n = 0
  · rw [if_pos h]
    exact Crc.Ev_ite_pos h (Ev.now [])
  · rw [if_neg h]
    exact Crc.Ev_ite_neg h (least_l0 n 7 1 (by omega) (by omega))
theorem refNumber_f (n : Int) : Ev (fun k => tumbrelref01_Number.f k n) (Pk.number n) := by
  have hw := Pk.wid_le n
  unfold tumbrelref01_Number.f
  refine Ev.bind (least_f n) (Crc.Ev_let ?_)
  rw [Pk.be_length]
  refine Crc.Ev_ite_pos (by simp; omega) (Crc.Ev_val ?_)
  rw [Int.emod_eq_of_lt (by omega) (by omega)]
  rfl
theorem refTake_l0 (w : Nat) (hw : w ≤ 8) (l : List Int) (hl : l.length ≤ 140737488355328) (hn : w ≤ l.length) (hb : ∀ c ∈ l, 0 ≤ c ∧ c < 256) :
    ∀ (d i : Nat) (x : Int), i + d = w ∨ (w = 0 ∧ i = 1 ∧ d = 0) → 0 < i → (0 < w → Pk.Fits i x) → (w = 0 → x = 0) → (0 < w → ((l.take w).drop i).foldl (fun x d => x * 256 + d) x = Pk.val (l.take w)) →
    Ev (fun k => tumbrelref01_TakeNumber.l0 k ((w : Int) :: l) (w : Int) x (i : Int)) (if Pk.wid (Pk.val (l.take w)) = w then (Pk.val (l.take w), 1 + (w : Int), 0) else (0, 0, 2))
  | 0, i, x, hi, h0, hf, hz, hv => by
    have htl : (l.take w).length = w := by rw [List.length_take]; omega
    have hx : x = Pk.val (l.take w) := by
      rcases Nat.eq_zero_or_pos w with h0 | h0
      · subst h0
        rw [hz rfl]
        rfl
      · have := hv h0
        rwa [List.drop_of_length_le (by omega)] at this
    subst hx
    have hbt : ∀ c ∈ l.take w, 0 ≤ c ∧ c < 256 := fun c h => hb c (List.mem_of_mem_take h)
    refine Ev.step (fun k => by rw [tumbrelref01_TakeNumber.l0, if_neg (by omega)]) (Ev.bind (refNumber_f _) ?_)
    have hlen : (((((w : Nat) : Int) :: l).length : Nat) : Int) = (l.length : Int) + 1 := by rw [List.length_cons]; omega
    rw [Crc.wrap64_id (by omega) (by omega), hlen]
    refine Crc.Ev_ite_pos (by omega) (Crc.Ev_ite_pos (by omega) ?_)
    have hcut : (((w : Nat) : Int) :: l).take ((1 + (w : Int)) : Int).toNat = (w : Int) :: l.take w := by
      rw [show ((1 + (w : Int)) : Int).toNat = w + 1 from by omega]
      rfl
    rw [hcut]
    by_cases h : Pk.wid (Pk.val (l.take w)) = w
    · rw [if_pos h]
      have e : Pk.number (Pk.val (l.take w)) = (w : Int) :: l.take w := by
        unfold Pk.number
        rw [h]
        congr 1
        have := Pk.be_val (l.take w) hbt
        rwa [htl] at this
      rw [e]
      exact Crc.Ev_ite_pos rfl (Ev.now _)
    · rw [if_neg h]
      refine Crc.Ev_ite_neg (fun e => h ?_) (Ev.now _)
      have e' := Pk.str_inj (by
        intro c hc
        rcases List.mem_cons.1 hc with rfl | hc
        · have := Pk.wid_le (Pk.val (l.take w)); omega
        · exact Pk.be_byte _ _ c hc) (by
        intro c hc
        rcases List.mem_cons.1 hc with rfl | hc
        · omega
        · exact hbt c hc) e
      injection e' with e1 _
      omega
  | d + 1, i, x, hi, h0, hf, hz, hv => by
    have hlt : i < l.length := by omega
    have hrd : rd ((w : Int) :: l) ((i + 1 : Nat) : Int) = l[i] := by simp [rd, List.getD_eq_getElem?_getD, List.getElem?_eq_getElem hlt]
    have hc := hb l[i] (List.getElem_mem hlt)
    have hfi := hf (by omega)
    have hr := Pk.fits_range hfi (by omega)
    have hr1 := Pk.fits_range (Pk.fits_snoc' i x 0 (by omega) hfi (by omega) (by omega)) (by omega)
    have e1 : wrap64 (1 + (i : Int)) = ((i + 1 : Nat) : Int) := by rw [Crc.wrap64_id (by omega) (by omega)]; omega
    have e2 : wrap64 ((i : Int) + 1) = ((i + 1 : Nat) : Int) := by rw [Crc.wrap64_id (by omega) (by omega)]; omega
    have hlen : (((((w : Nat) : Int) :: l).length : Nat) : Int) = (l.length : Int) + 1 := by rw [List.length_cons]; omega
    refine Ev.step (fun k => by rw [tumbrelref01_TakeNumber.l0, if_pos (by omega), e1, e2, hrd, if_pos (by omega), if_pos (by omega), Crc.wrap64_id (n := l[i]) (by omega) (by omega), Crc.wrap64_id (n := x * 256) (by omega) (by omega), Pk.or_byte x _ hc.1 hc.2 ⟨by omega, by omega⟩]) ?_
    refine refTake_l0 w hw l hl hn hb d (i + 1) _ (by omega) (by omega) (fun _ => Pk.fits_snoc' i x _ (by omega) hfi hc.1 hc.2) (by omega) (fun hw0 => ?_)
    have := hv hw0
    rw [List.drop_eq_getElem_cons (by rw [List.length_take]; omega), List.foldl_cons, List.getElem_take] at this
    exact this
theorem refTake_j0 (w : Nat) (l : List Int) (r : Int × Int × Int) (y : Int) (h : Ev (fun k => tumbrelref01_TakeNumber.l0 k ((w : Int) :: l) (w : Int) y 1) r) : Ev (fun k => tumbrelref01_TakeNumber.j0 k ((w : Int) :: l) (w : Int) y) r :=
  Ev.step (fun k => by rw [tumbrelref01_TakeNumber.j0]) h
theorem refTake_f (l : List Int) (hl : l.length ≤ 140737488355328) (hb : ∀ c ∈ l, 0 ≤ c ∧ c < 256) : Ev (fun k => tumbrelref01_TakeNumber.f k l) (Pk.take l) := by
  unfold tumbrelref01_TakeNumber.f
  cases l with
  | nil => exact Crc.Ev_ite_pos rfl (Ev.now _)
  | cons w l =>
    have hw := hb w (List.mem_cons_self ..)
    have hb' : ∀ c ∈ l, 0 ≤ c ∧ c < 256 := fun c h => hb c (List.mem_cons_of_mem _ h)
    have hrd : rd (w :: l) 0 = w := rfl
    rw [hrd, Crc.wrap64_id (n := w) (by omega) (by omega), Crc.wrap64_id (n := 1 + w) (by omega) (by omega)]
    have hlen : (((w :: l).length : Nat) : Int) = (l.length : Int) + 1 := by rw [List.length_cons]; omega
    rw [hlen]
    have hl' : l.length ≤ 140737488355328 := by rw [List.length_cons] at hl; omega
    unfold Pk.take
    simp only
    refine Crc.Ev_ite_neg (by omega) (Crc.Ev_ite_pos (by omega) ?_)
    by_cases h8 : 8 < w
    · rw [if_pos h8]
      exact Crc.Ev_ite_pos h8 (Ev.now _)
    · rw [if_neg h8]
      refine Crc.Ev_ite_neg h8 ?_
      by_cases hs : (l.length : Int) < w
      · rw [if_pos hs]
        exact Crc.Ev_ite_pos (by omega) (Ev.now _)
      · rw [if_neg hs]
        refine Crc.Ev_ite_neg (by omega) ?_
        obtain ⟨v, rfl⟩ := Int.eq_ofNat_of_zero_le hw.1
        rw [Int.toNat_natCast]
        rcases Nat.eq_zero_or_pos v with h0 | h0
        · subst h0
          exact Crc.Ev_ite_neg (by omega) (refTake_j0 0 l _ 0 (refTake_l0 0 (by omega) l hl' (by omega) hb' 0 1 0 (by omega) (by omega) (by omega) (fun _ => rfl) (by omega)))
        · refine Crc.Ev_ite_pos (by omega) (Crc.Ev_ite_pos (by omega) ?_)
          cases l with
          | nil => simp at hs; omega
          | cons c l =>
            have hc := hb' c (List.mem_cons_self ..)
            have hrd1 : rd ((v : Int) :: c :: l) 1 = c := rfl
            rw [hrd1, Pk.i8_wrap _ hc.1 hc.2, Crc.wrap64_id (by unfold Pk.i8; split <;> omega) (by unfold Pk.i8; split <;> omega)]
            refine refTake_j0 v (c :: l) _ _ (refTake_l0 v (by omega) (c :: l) hl' (by omega) hb' (v - 1) 1 _ (by omega) (by omega) (fun _ => Pk.fits_i8 _ hc.1 hc.2) (by omega) (fun _ => ?_))
            obtain ⟨u, rfl⟩ : ∃ u, v = u + 1 := ⟨v - 1, by omega⟩
            rfl

theorem takeText_f (l : List Int) (hl : l.length ≤ 140737488355328) (hb : ∀ c ∈ l, 0 ≤ c ∧ c < 256) : Ev (fun k => pack_TakeText.f k l) (Pk.takeText l) := by
  unfold pack_TakeText.f Pk.takeText
  refine Ev.bind (takeNum_f l hl hb) ?_
  have hk := Pk.take_ok l hb
  generalize Pk.take l = t at *
  obtain ⟨n, k, e⟩ := t
  simp only at hk ⊢
  by_cases h0 : e = 0
  · simp only [if_pos h0]
    obtain ⟨k1, k2, k3⟩ := hk h0
    rw [Crc.wrap64_id (n := (l.length : Int) - k) (by omega) (by omega)]
    by_cases h1 : n < 0
    · simp only [if_pos h1]
      exact Ev.now _
    · simp only [if_neg h1]
      by_cases h2 : n > (l.length : Int) - k
      · simp only [if_pos h2]
        exact Ev.now _
      · simp only [if_neg h2]
        rw [Crc.wrap64_id (n := k + n) (by omega) (by omega)]
        exact Crc.Ev_ite_pos (by omega) (Crc.Ev_ite_pos (by omega) (Crc.Ev_ite_pos (by omega) (Ev.now _)))
  · simp only [if_neg h0]
    exact Ev.now _

theorem refTakeText_f (l : List Int) (hl : l.length ≤ 140737488355328) (hb : ∀ c ∈ l, 0 ≤ c ∧ c < 256) : Ev (fun k => tumbrelref01_TakeText.f k l) (Pk.takeText l) := by
  unfold tumbrelref01_TakeText.f Pk.takeText
  refine Ev.bind (refTake_f l hl hb) ?_
  have hk := Pk.take_ok l hb
  generalize Pk.take l = t at *
  obtain ⟨n, k, e⟩ := t
  simp only at hk ⊢
  by_cases h0 : e = 0
  · simp only [if_pos h0]
    obtain ⟨k1, k2, k3⟩ := hk h0
    rw [Crc.wrap64_id (n := (l.length : Int) - k) (by omega) (by omega)]
    by_cases h1 : n < 0
    · simp only [if_pos h1]
      exact Ev.now _
    · simp only [if_neg h1]
      by_cases h2 : n > (l.length : Int) - k
      · simp only [if_pos h2]
        exact Ev.now _
      · simp only [if_neg h2]
        rw [Crc.wrap64_id (n := k + n) (by omega) (by omega)]
        exact Crc.Ev_ite_pos (by omega) (Crc.Ev_ite_pos (by omega) (Crc.Ev_ite_pos (by omega) (Ev.now _)))
  · simp only [if_neg h0]
    exact Ev.now _

abbrev T := Bool × Int × ByteArray
/-- The item ahead, and how many bytes it has. -/
def next : List Int → Option (T × Int)
  | [] => none
  | c :: t => if c = 1 then (if (Pk.take t).2.2 = 0 then some ((false, (Pk.take t).1, (⟨#[]⟩ : ByteArray)), 1 + (Pk.take t).2.1) else none)
    else if c = 2 then (if (Pk.takeText t).2.2 = 0 then some ((true, 0, (Pk.takeText t).1), 1 + (Pk.takeText t).2.1) else none) else none
def spec : Nat → List Int → List T → List T × Int
  | 0, b, acc => if b = [] then (acc, 0) else ([], 2)
  | m + 1, b, acc => match next b with
    | none => ([], 2)
    | some x => spec m (b.drop x.2.toNat) (acc ++ [x.1])
def read (l : List Int) : List T × Int := if (Pk.take l).2.2 = 0 ∧ 0 ≤ (Pk.take l).1 ∧ (Pk.take l).1 ≤ 4000 then spec (Pk.take l).1.toNat (l.drop (Pk.take l).2.1.toNat) [] else ([], 2)
theorem takeText_ok (l : List Int) (hb : ∀ c ∈ l, 0 ≤ c ∧ c < 256) : (Pk.takeText l).2.2 = 0 → 1 ≤ (Pk.takeText l).2.1 ∧ (Pk.takeText l).2.1 ≤ (l.length : Int) := by
  have hk := Pk.take_ok l hb
  unfold Pk.takeText
  split
  · rename_i h0
    have := hk h0
    split
    · intro h; simp at h
    · split
      · intro h; simp at h
      · intro _
        constructor <;> dsimp only <;> omega
  · rename_i h0
    intro h
    exact absurd h h0
theorem dropBytes {l : List Int} (hb : ∀ c ∈ l, 0 ≤ c ∧ c < 256) (n : Nat) : ∀ c ∈ l.drop n, 0 ≤ c ∧ c < 256 := fun c h => hb c (List.mem_of_mem_drop h)

def mk52 (x : T) : S52 := ⟨x.1, x.2.1, x.2.2⟩
theorem read_l0 (n : Nat) (hn : n ≤ 4000) : ∀ (m : Nat) (b : List Int) (acc : List T), acc.length + m = n → b.length ≤ 140737488355328 → (∀ c ∈ b, 0 ≤ c ∧ c < 256) →
    Ev (fun k => pack_Read.l0 k b (n : Int) (acc.map mk52)) ((spec m b acc).1.map mk52, (spec m b acc).2) := by
  intro m
  induction m with
  | zero =>
    intro b acc hm hl hb
    have hlen : (((acc.map mk52).length : Nat) : Int) = (n : Int) := by rw [List.length_map]; omega
    cases b with
    | nil => exact Ev.step (fun k => by rw [pack_Read.l0, if_neg (by simp), if_pos hlen]; rfl) (Ev.now _)
    | cons c t =>
      have hs : spec 0 (c :: t) acc = ([], 2) := rfl
      rw [hs]
      have hlt : t.length ≤ 140737488355328 := by rw [List.length_cons] at hl; omega
      have hbt : ∀ x ∈ t, 0 ≤ x ∧ x < 256 := fun x h => hb x (List.mem_cons_of_mem _ h)
      refine Ev.step (fun k => by rw [pack_Read.l0, if_pos (by first | (simp; done) | (simp; omega)), if_pos (by first | (simp; done) | (simp; omega)), show rd (c :: t) 0 = c from rfl]) ?_
      by_cases h1 : c = 1
      · refine Crc.Ev_ite_pos h1 (Crc.Ev_ite_pos (by first | (simp; done) | (simp; omega)) (Ev.bind (takeNum_f t hlt hbt) ?_))
        by_cases h0 : (Pk.take t).2.2 = 0
        · exact Crc.Ev_ite_pos h0 (Crc.Ev_ite_pos hlen (Ev.now _))
        · exact Crc.Ev_ite_neg h0 (Ev.now _)
      · refine Crc.Ev_ite_neg h1 ?_
        by_cases h2 : c = 2
        · refine Crc.Ev_ite_pos h2 (Crc.Ev_ite_pos (by first | (simp; done) | (simp; omega)) (Ev.bind (takeText_f t hlt hbt) ?_))
          by_cases h0 : (Pk.takeText t).2.2 = 0
          · exact Crc.Ev_ite_pos h0 (Crc.Ev_ite_pos hlen (Ev.now _))
          · exact Crc.Ev_ite_neg h0 (Ev.now _)
        · exact Crc.Ev_ite_neg h2 (Ev.now _)
  | succ m ih =>
    intro b acc hm hl hb
    have hlen : ¬ (((acc.map mk52).length : Nat) : Int) = (n : Int) := by rw [List.length_map]; omega
    cases b with
    | nil => exact Ev.step (fun k => by rw [pack_Read.l0, if_neg (by simp), if_neg hlen]; rfl) (Ev.now _)
    | cons c t =>
      have hlt : t.length ≤ 140737488355328 := by rw [List.length_cons] at hl; omega
      have hbt : ∀ x ∈ t, 0 ≤ x ∧ x < 256 := fun x h => hb x (List.mem_cons_of_mem _ h)
      refine Ev.step (fun k => by rw [pack_Read.l0, if_pos (by first | (simp; done) | (simp; omega)), if_pos (by first | (simp; done) | (simp; omega)), show rd (c :: t) 0 = c from rfl]) ?_
      by_cases h1 : c = 1
      · refine Crc.Ev_ite_pos h1 (Crc.Ev_ite_pos (by first | (simp; done) | (simp; omega)) (Ev.bind (takeNum_f t hlt hbt) ?_))
        by_cases h0 : (Pk.take t).2.2 = 0
        · have hk := Pk.take_ok t hbt h0
          have hs : spec (m + 1) (c :: t) acc = spec m ((c :: t).drop (1 + (Pk.take t).2.1).toNat) (acc ++ [(false, (Pk.take t).1, (⟨#[]⟩ : ByteArray))]) := by
            simp only [spec, next, if_pos h1, if_pos h0]
          rw [hs]
          refine Crc.Ev_ite_pos h0 (Crc.Ev_ite_neg hlen (Crc.Ev_ite_pos (by rw [List.length_map]; omega) ?_))
          rw [Crc.wrap64_id (by omega) (by omega)]
          refine Crc.Ev_ite_pos (by omega) (Crc.Ev_ite_pos (by rw [List.length_cons]; omega) ?_)
          have e := ih ((c :: t).drop (1 + (Pk.take t).2.1).toNat) (acc ++ [(false, (Pk.take t).1, (⟨#[]⟩ : ByteArray))]) (by rw [List.length_append, List.length_singleton]; omega) (by rw [List.length_drop]; omega) (dropBytes hb _)
          rw [List.map_append] at e
          exact e
        · have hs : spec (m + 1) (c :: t) acc = ([], 2) := by simp only [spec, next, if_pos h1, if_neg h0]
          rw [hs]
          exact Crc.Ev_ite_neg h0 (Ev.now _)
      · refine Crc.Ev_ite_neg h1 ?_
        by_cases h2 : c = 2
        · refine Crc.Ev_ite_pos h2 (Crc.Ev_ite_pos (by first | (simp; done) | (simp; omega)) (Ev.bind (takeText_f t hlt hbt) ?_))
          by_cases h0 : (Pk.takeText t).2.2 = 0
          · have hk := takeText_ok t hbt h0
            have hs : spec (m + 1) (c :: t) acc = spec m ((c :: t).drop (1 + (Pk.takeText t).2.1).toNat) (acc ++ [(true, 0, (Pk.takeText t).1)]) := by
              simp only [spec, next, if_neg h1, if_pos h2, if_pos h0]
            rw [hs]
            refine Crc.Ev_ite_pos h0 (Crc.Ev_ite_neg hlen (Crc.Ev_ite_pos (by rw [List.length_map]; omega) ?_))
            rw [Crc.wrap64_id (by omega) (by omega)]
            refine Crc.Ev_ite_pos (by omega) (Crc.Ev_ite_pos (by rw [List.length_cons]; omega) ?_)
            have e := ih ((c :: t).drop (1 + (Pk.takeText t).2.1).toNat) (acc ++ [(true, 0, (Pk.takeText t).1)]) (by rw [List.length_append, List.length_singleton]; omega) (by rw [List.length_drop]; omega) (dropBytes hb _)
            rw [List.map_append] at e
            exact e
          · have hs : spec (m + 1) (c :: t) acc = ([], 2) := by simp only [spec, next, if_neg h1, if_pos h2, if_neg h0]
            rw [hs]
            exact Crc.Ev_ite_neg h0 (Ev.now _)
        · have hs : spec (m + 1) (c :: t) acc = ([], 2) := by simp only [spec, next, if_neg h1, if_neg h2]
          rw [hs]
          exact Crc.Ev_ite_neg h2 (Ev.now _)
theorem read_j0 (l : List Int) (x5 : Int) (n : Int) : Ev (fun k => pack_Read.j0 k l n x5 true) ([], 2) := Ev.step (fun k => by rw [pack_Read.j0, if_pos rfl]) (Ev.now _)
theorem read_f (l : List Int) (hl : l.length ≤ 140737488355328) (hb : ∀ c ∈ l, 0 ≤ c ∧ c < 256) : Ev (fun k => pack_Read.f k l) ((read l).1.map mk52, (read l).2) := by
  unfold pack_Read.f
  refine Ev.bind (takeNum_f l hl hb) ?_
  by_cases h0 : (Pk.take l).2.2 = 0
  · refine Crc.Ev_ite_pos h0 ?_
    have hk := Pk.take_ok l hb h0
    by_cases h1 : (Pk.take l).1 < 0
    · have hr : read l = ([], 2) := by unfold read; exact if_neg (fun h => by omega)
      rw [hr]
      exact Crc.Ev_ite_pos h1 (read_j0 l _ _)
    · refine Crc.Ev_ite_neg h1 ?_
      by_cases h2 : (Pk.take l).1 > 4000
      · have hr : read l = ([], 2) := by unfold read; exact if_neg (fun h => by omega)
        rw [hr, decide_eq_true h2]
        exact read_j0 l _ _
      · have hr : read l = spec (Pk.take l).1.toNat (l.drop (Pk.take l).2.1.toNat) [] := by unfold read; exact if_pos ⟨h0, by omega, by omega⟩
        rw [hr, decide_eq_false h2]
        have e := read_l0 (Pk.take l).1.toNat (by omega) (Pk.take l).1.toNat (l.drop (Pk.take l).2.1.toNat) [] (by simp) (by rw [List.length_drop]; omega) (dropBytes hb _)
        rw [show (((Pk.take l).1.toNat : Nat) : Int) = (Pk.take l).1 from by omega] at e
        exact Ev.step (fun k => by rw [pack_Read.j0, if_neg (by decide), if_pos (by omega), if_pos (by omega), if_pos (by omega), if_pos (by omega)]; rfl) e
  · have hr : read l = ([], 2) := by unfold read; exact if_neg (fun h => h0 h.1)
    rw [hr]
    exact Crc.Ev_ite_neg h0 (read_j0 l _ _)

def mk64 (x : T) : S64 := ⟨x.1, x.2.1, x.2.2⟩
theorem refRead_l0 (n : Nat) (hn : n ≤ 4000) : ∀ (m : Nat) (b : List Int) (acc : List T), acc.length + m = n → b.length ≤ 140737488355328 → (∀ c ∈ b, 0 ≤ c ∧ c < 256) →
    Ev (fun k => tumbrelref01_Read.l0 k b (acc.map mk64) (n : Int) (acc.length : Int)) ((spec m b acc).1.map mk64, (spec m b acc).2) := by
  intro m
  induction m with
  | zero =>
    intro b acc hm hl hb
    cases b with
    | nil => exact Ev.step (fun k => by rw [tumbrelref01_Read.l0, if_neg (by omega), if_neg (by simp)]; rfl) (Ev.now _)
    | cons c t =>
      have hs : spec 0 (c :: t) acc = ([], 2) := rfl
      rw [hs]
      exact Ev.step (fun k => by rw [tumbrelref01_Read.l0, if_neg (by omega), if_pos (by first | (simp; done) | (simp; omega))]; rfl) (Ev.now _)
  | succ m ih =>
    intro b acc hm hl hb
    cases b with
    | nil => exact Ev.step (fun k => by rw [tumbrelref01_Read.l0, if_pos (by omega), if_pos (by simp)]; rfl) (Ev.now _)
    | cons c t =>
      have hlt : t.length ≤ 140737488355328 := by rw [List.length_cons] at hl; omega
      have hbt : ∀ x ∈ t, 0 ≤ x ∧ x < 256 := fun x h => hb x (List.mem_cons_of_mem _ h)
      refine Ev.step (fun k => by rw [tumbrelref01_Read.l0, if_pos (by omega), if_neg (by first | (simp; done) | (simp; omega)), if_pos (by first | (simp; done) | (simp; omega)), show rd (c :: t) 0 = c from rfl, Crc.wrap64_id (n := (acc.length : Int) + 1) (by omega) (by omega)]) ?_
      by_cases h1 : c = 1
      · refine Crc.Ev_ite_pos h1 (Crc.Ev_ite_pos (by first | (simp; done) | (simp; omega)) (Ev.bind (refTake_f t hlt hbt) ?_))
        by_cases h0 : (Pk.take t).2.2 = 0
        · have hk := Pk.take_ok t hbt h0
          have hs : spec (m + 1) (c :: t) acc = spec m ((c :: t).drop (1 + (Pk.take t).2.1).toNat) (acc ++ [(false, (Pk.take t).1, (⟨#[]⟩ : ByteArray))]) := by
            simp only [spec, next, if_pos h1, if_pos h0]
          rw [hs]
          refine Crc.Ev_ite_pos h0 (Crc.Ev_ite_pos (by rw [List.length_map]; omega) ?_)
          rw [Crc.wrap64_id (by omega) (by omega)]
          refine Crc.Ev_ite_pos (by omega) (Crc.Ev_ite_pos (by rw [List.length_cons]; omega) ?_)
          have e := ih ((c :: t).drop (1 + (Pk.take t).2.1).toNat) (acc ++ [(false, (Pk.take t).1, (⟨#[]⟩ : ByteArray))]) (by rw [List.length_append, List.length_singleton]; omega) (by rw [List.length_drop]; omega) (dropBytes hb _)
          rw [List.map_append, List.length_append, List.length_singleton, Int.natCast_add] at e
          exact e
        · have hs : spec (m + 1) (c :: t) acc = ([], 2) := by simp only [spec, next, if_pos h1, if_neg h0]
          rw [hs]
          exact Crc.Ev_ite_neg h0 (Ev.now _)
      · refine Crc.Ev_ite_neg h1 ?_
        by_cases h2 : c = 2
        · refine Crc.Ev_ite_pos h2 (Crc.Ev_ite_pos (by first | (simp; done) | (simp; omega)) (Ev.bind (refTakeText_f t hlt hbt) ?_))
          by_cases h0 : (Pk.takeText t).2.2 = 0
          · have hk := takeText_ok t hbt h0
            have hs : spec (m + 1) (c :: t) acc = spec m ((c :: t).drop (1 + (Pk.takeText t).2.1).toNat) (acc ++ [(true, 0, (Pk.takeText t).1)]) := by
              simp only [spec, next, if_neg h1, if_pos h2, if_pos h0]
            rw [hs]
            refine Crc.Ev_ite_pos h0 (Crc.Ev_ite_pos (by rw [List.length_map]; omega) ?_)
            rw [Crc.wrap64_id (by omega) (by omega)]
            refine Crc.Ev_ite_pos (by omega) (Crc.Ev_ite_pos (by rw [List.length_cons]; omega) ?_)
            have e := ih ((c :: t).drop (1 + (Pk.takeText t).2.1).toNat) (acc ++ [(true, 0, (Pk.takeText t).1)]) (by rw [List.length_append, List.length_singleton]; omega) (by rw [List.length_drop]; omega) (dropBytes hb _)
            rw [List.map_append, List.length_append, List.length_singleton, Int.natCast_add] at e
            exact e
          · have hs : spec (m + 1) (c :: t) acc = ([], 2) := by simp only [spec, next, if_neg h1, if_pos h2, if_neg h0]
            rw [hs]
            exact Crc.Ev_ite_neg h0 (Ev.now _)
        · have hs : spec (m + 1) (c :: t) acc = ([], 2) := by simp only [spec, next, if_neg h1, if_neg h2]
          rw [hs]
          exact Crc.Ev_ite_neg h2 (Ev.now _)
theorem refRead_j0 (l : List Int) (x5 : Int) (n : Int) : Ev (fun k => tumbrelref01_Read.j0 k l n x5 true) ([], 2) := Ev.step (fun k => by rw [tumbrelref01_Read.j0, if_pos rfl]) (Ev.now _)
theorem refRead_f (l : List Int) (hl : l.length ≤ 140737488355328) (hb : ∀ c ∈ l, 0 ≤ c ∧ c < 256) : Ev (fun k => tumbrelref01_Read.f k l) ((read l).1.map mk64, (read l).2) := by
  unfold tumbrelref01_Read.f
  refine Ev.bind (refTake_f l hl hb) ?_
  by_cases h0 : (Pk.take l).2.2 = 0
  · refine Crc.Ev_ite_pos h0 ?_
    have hk := Pk.take_ok l hb h0
    by_cases h1 : (Pk.take l).1 < 0
    · have hr : read l = ([], 2) := by unfold read; exact if_neg (fun h => by omega)
      rw [hr]
      exact Crc.Ev_ite_pos h1 (refRead_j0 l _ _)
    · refine Crc.Ev_ite_neg h1 ?_
      by_cases h2 : (Pk.take l).1 > 4000
      · have hr : read l = ([], 2) := by unfold read; exact if_neg (fun h => by omega)
        rw [hr, decide_eq_true h2]
        exact refRead_j0 l _ _
      · have hr : read l = spec (Pk.take l).1.toNat (l.drop (Pk.take l).2.1.toNat) [] := by unfold read; exact if_pos ⟨h0, by omega, by omega⟩
        rw [hr, decide_eq_false h2]
        have e := refRead_l0 (Pk.take l).1.toNat (by omega) (Pk.take l).1.toNat (l.drop (Pk.take l).2.1.toNat) [] (by simp) (by rw [List.length_drop]; omega) (dropBytes hb _)
        rw [show (((Pk.take l).1.toNat : Nat) : Int) = (Pk.take l).1 from by omega] at e
        exact Ev.step (fun k => by rw [tumbrelref01_Read.j0, if_neg (by decide), if_pos (by omega), if_pos (by omega)]; rfl) e
  · have hr : read l = ([], 2) := by unfold read; exact if_neg (fun h => h0 h.1)
    rw [hr]
    exact Crc.Ev_ite_neg h0 (refRead_j0 l _ _)
theorem same_l0 (l : List S64) (hl : l.length ≤ 4398046511104) : ∀ (d i : Nat), i + d = l.length → Ev (fun k => tumbrelref01_Same.l0 k l l (l.length : Int) (i : Int)) true
  | 0, i, h => Ev.step (fun k => by rw [tumbrelref01_Same.l0, if_neg (by omega)]) (Ev.now _)
  | d + 1, i, h => by
    refine Ev.step (fun k => by rw [tumbrelref01_Same.l0, if_pos (by omega), if_pos (by omega), if_pos (by omega), if_pos (by omega), if_neg (by simp), Crc.wrap64_id (by omega) (by omega)]) ?_
    exact same_l0 l hl d (i + 1) (by omega)
theorem same_f (l : List S64) (hl : l.length ≤ 4398046511104) : Ev (fun k => tumbrelref01_Same.f k l l) true := by
  unfold tumbrelref01_Same.f
  exact Crc.Ev_ite_pos rfl (same_l0 l hl l.length 0 (by omega))
theorem ours_l0 (l : List T) (hl : l.length ≤ 4000) : ∀ (d i : Nat), i + d = l.length → Ev (fun k => tumbrellaw01_ours.l0 k (l.map mk52) ((l.take i).map mk64) ((l.map mk52).length : Int) (i : Int)) (l.map mk64)
  | 0, i, h => by
    refine Ev.step (fun k => by rw [tumbrellaw01_ours.l0, if_neg (by rw [List.length_map]; omega)]) (Crc.Ev_val ?_)
    rw [List.take_of_length_le (by omega)]
  | d + 1, i, h => by
    have hi : i < l.length := by omega
    have hrd : rd_T52 (l.map mk52) (i : Int) = mk52 l[i] := by simp [rd_T52, List.getD_eq_getElem?_getD, List.getElem?_eq_getElem hi]
    refine Ev.step (fun k => by rw [tumbrellaw01_ours.l0, if_pos (by rw [List.length_map]; omega), if_pos (by omega), if_pos (by rw [List.length_map]; omega), if_pos (by rw [List.length_map, List.length_take]; omega), Crc.wrap64_id (by omega) (by omega), hrd]) ?_
    have e := ours_l0 l hl d (i + 1) (by omega)
    rw [List.take_succ_eq_append_getElem hi, List.map_append] at e
    exact e
theorem ours_f (l : List T) (hl : l.length ≤ 4000) : Ev (fun k => tumbrellaw01_ours.f k (l.map mk52)) (l.map mk64) := by
  unfold tumbrellaw01_ours.f
  exact ours_l0 l hl l.length 0 (by omega)
theorem spec_length : ∀ (m : Nat) (b : List Int) (acc : List T), (spec m b acc).1.length ≤ acc.length + m
  | 0, b, acc => by unfold spec; split <;> simp
  | m + 1, b, acc => by
    unfold spec
    split
    · simp
    · refine Nat.le_trans (spec_length m _ _) ?_
      rw [List.length_append, List.length_singleton]
      omega
theorem read_length (l : List Int) : (read l).1.length ≤ 4000 := by
  unfold read
  split
  · rename_i h
    refine Nat.le_trans (spec_length _ _ _) ?_
    simp only [List.length_nil]
    omega
  · simp

theorem PackReads : tumbrellaw01_PackReads.Pure := by
  intro l0 hl _ hw
  unfold maxLen at hl
  have hb := Pk.bytes_of hw
  have hl' : l0.length ≤ 140737488355328 := by omega
  refine Ev.rounds (g := fun k => tumbrellaw01_PackReads.f k l0) ?_
  have hr : read [1, 1, 1, 1, 5] = ([(false, 5, (⟨#[]⟩ : ByteArray))], 0) := by decide +kernel
  have e1 := read_f [1, 1, 1, 1, 5] (by decide) (by decide)
  rw [hr] at e1
  refine Ev.bind (read_f l0 hl' hb) (Ev.bind (refRead_f l0 hl' hb) (Ev.bind e1 (Ev.bind (ours_f _ (read_length l0)) (Ev.bind (same_f _ (by rw [List.length_map]; have := read_length l0; omega)) ?_))))
  exact Crc.Ev_ite_pos rfl (Crc.Ev_ite_pos rfl (Crc.Ev_ite_pos rfl (Crc.Ev_ite_pos rfl (Crc.Ev_ite_pos (by decide) (Ev.now _)))))

end Go.Proofs.Ytbfmndikbbfcdaa.Pure
