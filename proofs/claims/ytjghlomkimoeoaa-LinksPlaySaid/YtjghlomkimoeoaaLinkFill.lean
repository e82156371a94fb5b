/- A hundred letters: plain laws. -/
import Derived.Test.YtjghlomkimoeoaaLinkTake
import Derived.Test.YtjghlomkimoeoaaLinkDouble
namespace Go.Proofs.Ytjghlomkimoeoaa.Lnk
open Go.RowKit Go.Proofs.YtjghlomkimoeoaaW.PrintWords Go.Proofs.YtjghlomkimoeoaaW.PrintLast Go.Proofs.YtjghlomkimoeoaaW.PrintMore Go.Proofs.Ytjghlomkimoeoaa.PLinksPlay
open Amap Stp
set_option linter.unusedVariables false
set_option linter.unusedSimpArgs false
theorem line_put (L : List (Key × List (List Int))) (k k' : Key) (v : List (List Int)) : line (mput L k v) k' = if k = k' then v else line L k' := by
  unfold line
  induction L with
  | nil => simp only [mput, mlook]; split <;> rfl
  | cons q L ih =>
    simp only [mput]
    by_cases h : q.1 = k
    · rw [if_pos h]
      simp only [mlook]
      by_cases h2 : k = k'
      · rw [if_pos h2, if_pos h2]; rfl
      · rw [if_neg h2, if_neg h2, if_neg (by rw [h]; exact h2)]
    · rw [if_neg h]
      simp only [mlook]
      by_cases h2 : q.1 = k'
      · rw [if_pos h2, if_pos h2, if_neg (by rw [← h2]; exact fun e => h e.symm)]
      · rw [if_neg h2, if_neg h2]; exact ih
theorem all_put {P : List Int → Prop} {L : List (Key × List (List Int))} (h : ∀ q ∈ L, ∀ x ∈ q.2, P x) {k : Key} {v : List (List Int)} (hv : ∀ x ∈ v, P x) : ∀ q ∈ mput L k v, ∀ x ∈ q.2, P x := by
  induction L with
  | nil => intro q hq; simp [mput] at hq; subst hq; exact hv
  | cons r L ih =>
    intro q hq
    simp only [mput] at hq
    split at hq
    · rcases List.mem_cons.1 hq with rfl | hq
      · exact hv
      · exact h q (List.mem_cons_of_mem _ hq)
    · rcases List.mem_cons.1 hq with rfl | hq
      · exact h _ (List.mem_cons_self ..)
      · exact ih (fun q hq => h q (List.mem_cons_of_mem _ hq)) q hq
theorem all_line {P : List Int → Prop} {L : List (Key × List (List Int))} (h : ∀ q ∈ L, ∀ x ∈ q.2, P x) (k : Key) : ∀ x ∈ line L k, P x := by
  unfold line
  cases hl : mlook L k with
  | none => simp
  | some y => exact h (k, y) (mlook_mem hl)
theorem tot_put2 (L : List (Key × List (List Int))) (k : Key) (v : List (List Int)) (x : List Int) : tot (mput (mput L k v) k (v ++ [x])) = tot (mput L k v) + 1 := by
  have h := tot_put (mput L k v) k (v ++ [x])
  rw [line_put, if_pos rfl, List.length_append, List.length_singleton] at h
  omega
def fill (b : List Int) : Nat → LSt
  | 0 => ⟨5, []⟩
  | i + 1 => (send (fill b i) (((i % 4 : Nat) : Int), 4) b).1
structure Filled (b : List Int) (i : Nat) (S : LSt) : Prop where
  par : S.parties = 5
  tot : tot S.L = i
  line : ∀ j : Nat, j < 4 → line S.L ((j : Int), 4) = List.replicate ((i + 3 - j) / 4) b
  all : ∀ q ∈ S.L, ∀ x ∈ q.2, x = b
theorem there_5 {S : LSt} (h : S.parties = 5) {a c : Int} (ha : 0 ≤ a ∧ a < 5) (hc : 0 ≤ c ∧ c < 5) (hne : a ≠ c) : there S (a, c) = true := by
  unfold there party
  rw [h]
  simp [ha.1, ha.2, hc.1, hc.2, hne]
theorem send_free {S : LSt} (h : S.parties = 5) {a c : Int} (ha : 0 ≤ a ∧ a < 5) (hc : 0 ≤ c ∧ c < 5) (hne : a ≠ c) (ht : tot S.L < 100) (b : List Int) : send S (a, c) b = (⟨S.parties, mput S.L (a, c) (line S.L (a, c) ++ [b])⟩, 0) := by
  unfold send
  rw [there_5 h ha hc hne, if_neg (by simp), if_neg (by omega)]
theorem send_stuck {S : LSt} (h : S.parties = 5) {a c : Int} (ha : 0 ≤ a ∧ a < 5) (hc : 0 ≤ c ∧ c < 5) (hne : a ≠ c) (ht : 100 ≤ tot S.L) (b : List Int) : send S (a, c) b = (S, 7) := by
  unfold send
  rw [there_5 h ha hc hne, if_neg (by simp), if_pos ht]
theorem filled_step {b : List Int} {i : Nat} {S : LSt} (h : Filled b i S) (hi : i < 100) : send S (((i % 4 : Nat) : Int), 4) b = ((send S (((i % 4 : Nat) : Int), 4) b).1, 0) ∧ Filled b (i + 1) (send S (((i % 4 : Nat) : Int), 4) b).1 := by
  have hs := send_free h.par (a := ((i % 4 : Nat) : Int)) (c := 4) (by omega) (by omega) (by omega) (by rw [h.tot]; exact hi) b
  rw [hs]
  refine ⟨rfl, h.par, ?_, ?_, all_put h.all (fun x hx => ?_)⟩
  · have h1 := tot_put S.L (((i % 4 : Nat) : Int), 4) (line S.L (((i % 4 : Nat) : Int), 4) ++ [b])
    simp at h1
    have := h.tot
    simp only []
    simp
    omega
  · intro j hj
    simp only []
    rw [line_put]
    by_cases e : i % 4 = j
    · rw [if_pos (by rw [e]), h.line (i % 4) (by omega), e, show [b] = List.replicate 1 b from rfl, List.replicate_append_replicate]
      congr 1
      omega
    · rw [if_neg (by intro e2; injection e2 with e2 _; exact e (by omega)), h.line j hj]
      congr 1
      omega
  · rcases List.mem_append.1 hx with hx | hx
    · exact all_line h.all _ x hx
    · exact List.mem_singleton.1 hx
theorem filled_new (b : List Int) : Filled b 0 ⟨5, []⟩ := ⟨rfl, rfl, fun j hj => by rw [show (0 + 3 - j) / 4 = 0 from by omega]; rfl, by simp⟩
theorem small_of {S : LSt} {b : List Int} (ht : tot S.L ≤ 100) (ha : ∀ q ∈ S.L, ∀ x ∈ q.2, x = b) (hb : b.length ≤ 100) : Small S := ⟨ht, fun q hq x hx => by rw [ha q hq x hx]; omega⟩
theorem Filled.small {b : List Int} {i : Nat} {S : LSt} (h : Filled b i S) (hi : i ≤ 100) (hb : b.length ≤ 100) : Small S := small_of (by rw [h.tot]; exact hi) h.all hb
theorem full_end {b : List Int} {S : LSt} (h : Filled b 100 S) (hb : b.length ≤ 100) (f m : Nat) (hf : f < 4) (hm : m < 25) :
    send S (0, 1) b = (S, 7) ∧ double S ((f : Int), 4) 0 = (S, 7) ∧ peek S ((f : Int), 4) (m : Int) = some b ∧ Small S ∧ Small (take S ((f : Int), 4) m) ∧
    ∃ S3, double (take S ((f : Int), 4) m) ((f : Int), 4) 0 = (S3, 0) ∧ send S3 (0, 1) b = (S3, 7) ∧ tot S3.L = 100 := by
  have hl := h.line f hf
  rw [show (100 + 3 - f) / 4 = 25 from by omega] at hl
  have hp : ∀ j : Nat, j < 25 → peek S ((f : Int), 4) (j : Int) = some b := by
    intro j hj
    unfold peek
    rw [if_pos (by omega), hl]
    simp only [Int.toNat_natCast]
    rw [List.getElem?_replicate, if_pos hj]
  have h0 := hp 0 (by omega)
  have hst : ∀ {S' : LSt} {a c : Int}, S'.parties = 5 → tot S'.L = 100 → (0 ≤ a ∧ a < 5) → (0 ≤ c ∧ c < 5) → a ≠ c → send S' (a, c) b = (S', 7) := fun hp ht ha hc hne => send_stuck hp ha hc hne (by omega) b
  refine ⟨hst h.par h.tot (by omega) (by omega) (by omega), ?_, hp m hm, h.small (Nat.le_refl _) hb, ?_⟩
  · unfold double
    rw [show ((0 : Nat) : Int) = 0 from rfl] at h0
    rw [h0]
    exact hst h.par h.tot (by omega) (by omega) (by omega)
  · have htk : take S ((f : Int), 4) m = ⟨S.parties, mput S.L ((f : Int), 4) (List.replicate 24 b)⟩ := by
      unfold take
      rw [hp m hm, hl]
      simp only [Int.toNat_natCast]
      rw [List.eraseIdx_replicate, if_pos hm]
    rw [htk]
    have ht := tot_put S.L ((f : Int), 4) (List.replicate 24 b)
    rw [hl] at ht
    simp only [List.length_replicate] at ht
    have htt := h.tot
    have hall : ∀ q ∈ mput S.L ((f : Int), 4) (List.replicate 24 b), ∀ x ∈ q.2, x = b := all_put h.all (fun x hx => (List.mem_replicate.1 hx).2)
    refine ⟨small_of (by simp only []; omega) hall hb, ?_⟩
    have hpk : peek ⟨S.parties, mput S.L ((f : Int), 4) (List.replicate 24 b)⟩ ((f : Int), 4) 0 = some b := by
      unfold peek
      rw [if_pos (by omega), line_put, if_pos rfl]
      rfl
    unfold double
    rw [hpk]
    simp only []
    rw [send_free (S := ⟨S.parties, mput S.L ((f : Int), 4) (List.replicate 24 b)⟩) h.par (by omega) (by omega) (by omega) (by simp only []; omega)]
    refine ⟨_, rfl, ?_, ?_⟩
    · refine hst h.par ?_ (by omega) (by omega) (by omega)
      simp only [line_put, if_true]
      rw [tot_put2]
      omega
    · simp only [line_put, if_true]
      rw [tot_put2]
      omega
end Go.Proofs.Ytjghlomkimoeoaa.Lnk
