/- What was sealed is opened; cut off, or with one byte turned, it is not: plain facts. -/
import Derived.Test.YtbfmndikbbfcdaaSl
namespace Go.Proofs.Ytbfmndikbbfcdaa.Sl
open Go.RowKit Go.Proofs.YtbfmndikbbfcdaaW.PrintWords

def Bytes (l : List Int) : Prop := ∀ c ∈ l, 0 ≤ c ∧ c < 256
theorem Bytes.append {a b : List Int} (ha : Bytes a) (hb : Bytes b) : Bytes (a ++ b) := fun c hc => (List.mem_append.1 hc).elim (ha c) (hb c)
theorem Bytes.set {a : List Int} (ha : Bytes a) (k : Nat) {v : Int} (hv : 0 ≤ v ∧ v < 256) : Bytes (a.set k v) := fun c hc => by
  rcases List.mem_or_eq_of_mem_set hc with h | rfl
  · exact ha c h
  · exact hv
theorem rd_at (l : List Int) (i : Nat) (h : i < l.length) : rd l (i : Int) = l[i] := by
  simp [rd, List.getD_eq_getElem?_getD, List.getElem?_eq_getElem h]
theorem of2_at (l : List Int) (h : 2 ≤ l.length) : of2 l = (l[0] : Int) * (256 : Int) + (l[1] : Int) := by
  have h0 : rd l 0 = l[0] := rd_at l 0 (by omega)
  have h1 : rd l 1 = l[1] := rd_at l 1 (by omega)
  unfold of2
  rw [h0, h1]
theorem of2_append (x y : List Int) (h : 2 ≤ x.length) : of2 (x ++ y) = of2 x := by
  rw [of2_at _ (by rw [List.length_append]; omega), of2_at _ h, List.getElem_append_left, List.getElem_append_left]
theorem sm_set {x : List Int} (hx : Bytes x) {k : Nat} (hk : k < x.length) {v : Int} (hv : 0 ≤ v ∧ v < 256) (hne : v ≠ x[k]) : sm (x.set k v) ≠ sm x := by
  intro h
  have e1 : x.set k v = x.take k ++ v :: x.drop (k + 1) := List.set_eq_take_append_cons_drop.trans (by rw [if_pos hk])
  have e2 : x = x.take k ++ x[k] :: x.drop (k + 1) := by rw [← List.drop_eq_getElem_cons hk, List.take_append_drop]
  have h2 : Crc.sum (x.take k ++ v :: x.drop (k + 1)) = Crc.sum (x.take k ++ x[k] :: x.drop (k + 1)) := by
    rw [← e1, ← e2]
    unfold sm at h
    exact BitVec.eq_of_toNat_eq (by omega)
  have hb := hx x[k] (List.getElem_mem hk)
  exact hne (Crc.sum_turned _ _ hv.1 hv.2 hb.1 hb.2 h2)
theorem of2_set {x : List Int} (hx : Bytes x) (h2 : 2 ≤ x.length) {k : Nat} (hk : k < 2) {v : Int} (_hv : 0 ≤ v ∧ v < 256) (hne : v ≠ x[k]) : of2 (x.set k v) ≠ of2 x := by
  have h0 := hx x[0] (List.getElem_mem (by omega))
  have h1 := hx x[1] (List.getElem_mem (by omega))
  rw [of2_at _ (by rw [List.length_set]; omega), of2_at _ h2, List.getElem_set, List.getElem_set]
  rcases (by omega : k = 0 ∨ k = 1) with rfl | rfl
  · simp only [if_true, Nat.zero_ne_one, if_false]
    omega
  · simp only [if_true, Nat.one_ne_zero, if_false]
    omega

section
variable {b : List Int} {n : Nat} (hlen : b.length = n + 6) (hb : Bytes b) (hof : of2 b = n) (h0 : 0 < n) (h1 : n ≤ 14000) (hs1 : sm (b.take 2) = of2 (b.drop 2)) (hs2 : sm (b.take (4 + n)) = of2 (b.drop (4 + n)))
include hlen hof h0 h1 hs1 hs2 in
theorem open_good (behind : List Int) : open_ (b ++ behind) = ((b.take (4 + n)).drop 4, ((n + 6 : Nat) : Int), 0) := by
  unfold open_
  rw [if_neg (by rw [List.length_append]; omega)]
  simp only
  rw [of2_append b behind (by omega), hof, show ((4 : Int) + (n : Int)).toNat = 4 + n from by omega]
  rw [List.take_append_of_le_length (by omega), List.drop_append_of_le_length (by omega), of2_append _ behind (by rw [List.length_drop]; omega)]
  rw [if_neg (fun h => h.elim (by omega) (fun h => h.elim (by omega) (fun h => h hs1)))]
  rw [if_neg (by rw [List.length_append]; omega)]
  rw [List.take_append_of_le_length (by omega), List.drop_append_of_le_length (by omega), of2_append _ behind (by rw [List.length_drop]; omega)]
  rw [if_neg (fun h => h hs2)]
  congr 2
  omega
include hlen hof h0 h1 hs1 in
theorem open_cut (k : Nat) (hk : k < b.length) : (open_ (b.take k)).2.2 = 5 := by
  unfold open_
  by_cases h4 : k < 4
  · rw [if_pos (by rw [List.length_take]; omega)]
  · rw [if_neg (by rw [List.length_take]; omega)]
    simp only
    have e : of2 (b.take k) = n := by
      rw [← hof]
      conv => rhs; rw [← List.take_append_drop k b]
      rw [of2_append _ _ (by rw [List.length_take]; omega)]
    have e2 : of2 ((b.take k).drop 2) = of2 (b.drop 2) := by
      conv => rhs; rw [← List.take_append_drop k b]
      rw [List.drop_append_of_le_length (by rw [List.length_take]; omega), of2_append _ _ (by rw [List.length_drop, List.length_take]; omega)]
    rw [e, e2, List.take_take, Nat.min_eq_left (by omega)]
    rw [if_neg (fun h => h.elim (by omega) (fun h => h.elim (by omega) (fun h => h hs1)))]
    rw [if_pos (by rw [List.length_take]; omega)]
include hlen hb hof h0 h1 hs1 hs2 in
theorem open_turned (behind : List Int) (k : Nat) (hk : k < b.length) (v : Int) (hv : 0 ≤ v ∧ v < 256) : (open_ (b.set k v ++ behind)).2.2 = 0 ↔ v = b[k] := by
  constructor
  · intro h
    apply Classical.byContradiction
    intro hne
    revert h
    have hl : (b.set k v).length = n + 6 := by rw [List.length_set]; exact hlen
    have ht : ∀ m, Bytes (b.take m) := fun m c hc => hb c (List.mem_of_mem_take hc)
    have hd : ∀ m, Bytes (b.drop m) := fun m c hc => hb c (List.mem_of_mem_drop hc)
    show ¬ (open_ (b.set k v ++ behind)).2.2 = 0
    unfold open_
    rw [if_neg (by rw [List.length_append]; omega)]
    simp only
    rw [of2_append _ behind (by omega), List.take_append_of_le_length (i := 2) (by omega), List.drop_append_of_le_length (i := 2) (by omega), of2_append _ behind (by rw [List.length_drop]; omega)]
    by_cases hk4 : k < 4
    · have hbad : sm ((b.set k v).take 2) ≠ of2 ((b.set k v).drop 2) := by
        by_cases hk2 : k < 2
        · rw [List.drop_set_of_lt hk2, ← hs1, List.take_set]
          exact sm_set (ht 2) (by rw [List.length_take]; omega) hv (by rw [List.getElem_take]; exact hne)
        · rw [List.take_set_of_le (by omega), hs1, List.drop_set, if_neg (by omega)]
          exact (of2_set (hd 2) (by rw [List.length_drop]; omega) (by omega) hv (by rw [List.getElem_drop]; simp only [show 2 + (k - 2) = k from by omega]; exact hne)).symm
      rw [if_pos (Or.inr (Or.inr hbad))]
      decide
    · have e : of2 (b.set k v) = n := by
        rw [← hof, of2_at _ (by omega), of2_at b (by omega), List.getElem_set, List.getElem_set, if_neg (by omega), if_neg (by omega)]
      have e2 : sm ((b.set k v).take 2) = of2 ((b.set k v).drop 2) := by
        rw [List.take_set_of_le (by omega), hs1, of2_at _ (by rw [List.length_drop]; omega), of2_at _ (by rw [List.length_drop]; omega)]
        simp only [List.getElem_drop, List.getElem_set]
        rw [if_neg (by omega), if_neg (by omega)]
      rw [e, if_neg (fun h => h.elim (by omega) (fun h => h.elim (by omega) (fun h => h e2))), if_neg (by rw [List.length_append]; omega), show ((4 : Int) + (n : Int)).toNat = 4 + n from by omega]
      rw [List.take_append_of_le_length (by omega), List.drop_append_of_le_length (by omega), of2_append _ behind (by rw [List.length_drop]; omega)]
      have hbad : sm ((b.set k v).take (4 + n)) ≠ of2 ((b.set k v).drop (4 + n)) := by
        by_cases hk2 : k < 4 + n
        · rw [List.drop_set_of_lt hk2, ← hs2, List.take_set]
          exact sm_set (ht _) (by rw [List.length_take]; omega) hv (by rw [List.getElem_take]; exact hne)
        · rw [List.take_set_of_le (by omega), hs2, List.drop_set, if_neg (by omega)]
          exact (of2_set (hd _) (by rw [List.length_drop]; omega) (by omega) hv (by rw [List.getElem_drop]; simp only [show 4 + n + (k - (4 + n)) = k from by omega]; exact hne)).symm
      rw [if_pos hbad]
      decide
  · rintro rfl
    rw [List.set_getElem_self, open_good hlen hof h0 h1 hs1 hs2]
end
/-- The bytes of a sealed payload. -/
def bseal (l : List Int) : List Int := two2 l.length ++ two2 (sm (two2 l.length)) ++ l ++ two2 (sm (two2 l.length ++ two2 (sm (two2 l.length)) ++ l))
theorem sealed_eq (l : List Int) (h0 : 0 < l.length) (h1 : l.length ≤ 14000) : sealed l = (bseal l, 0) := by
  unfold sealed bseal
  rw [if_neg (by omega), if_neg (by omega)]
theorem bseal_length (l : List Int) : (bseal l).length = l.length + 6 := by
  simp [bseal, two2]
theorem bseal_bytes (l : List Int) (hb : Bytes l) : Bytes (bseal l) := (((Bytes.append (two2_byte _) (two2_byte _)).append hb).append (two2_byte _))
theorem of2_two {n : Int} (h0 : 0 ≤ n) (h1 : n < 65536) (l : List Int) : of2 (two2 n ++ l) = n := by
  rw [of2_append _ _ (by simp [two2])]
  show (n / 256) % 256 * 256 + n % 256 = n
  omega
theorem bseal_facts (l : List Int) (h1 : l.length ≤ 14000) :
    of2 (bseal l) = (l.length : Int) ∧ sm ((bseal l).take 2) = of2 ((bseal l).drop 2) ∧ sm ((bseal l).take (4 + l.length)) = of2 ((bseal l).drop (4 + l.length)) ∧ ((bseal l).take (4 + l.length)).drop 4 = l := by
  have r1 := sm_range (two2 l.length)
  have r2 := sm_range (two2 l.length ++ two2 (sm (two2 l.length)) ++ l)
  have hl : (two2 l.length ++ two2 (sm (two2 l.length)) ++ l).length = 4 + l.length := by simp [two2]; omega
  have e2 : (bseal l).take (4 + l.length) = two2 l.length ++ two2 (sm (two2 l.length)) ++ l := by
    unfold bseal
    exact List.take_left' hl
  refine ⟨?_, ?_, ?_, ?_⟩
  · unfold bseal
    rw [List.append_assoc, List.append_assoc]
    exact of2_two (by omega) (by omega) _
  · have e : bseal l = two2 l.length ++ (two2 (sm (two2 l.length)) ++ (l ++ two2 (sm (two2 l.length ++ two2 (sm (two2 l.length)) ++ l)))) := by simp [bseal, List.append_assoc]
    rw [e, List.take_left' (by simp [two2]), List.drop_left' (by simp [two2]), of2_two r1.1 r1.2]
  · rw [e2]
    unfold bseal
    rw [List.drop_left' hl]
    have := of2_two r2.1 r2.2 []
    rw [List.append_nil] at this
    exact this.symm
  · rw [e2]
    exact List.drop_left' (by simp [two2])
theorem xor_u8 (a b : Int) : Go.bits .xor .u8 a b = ((BitVec.ofInt 8 a ^^^ BitVec.ofInt 8 b).toNat : Int) := by
  unfold Go.bits
  have h := (BitVec.ofInt 8 a ^^^ BitVec.ofInt 8 b).isLt
  show IntKind.u8.wrap (((BitVec.ofInt 8 a ^^^ BitVec.ofInt 8 b).toNat : Nat) : Int) = _
  rw [IntKind.wrap_u8]
  omega
theorem xor_range (a b : Int) : 0 ≤ Go.bits .xor .u8 a b ∧ Go.bits .xor .u8 a b < 256 := by
  rw [xor_u8]
  have h := (BitVec.ofInt 8 a ^^^ BitVec.ofInt 8 b).isLt
  omega
theorem xor_self_iff {a b : Int} (ha : 0 ≤ a ∧ a < 256) (hb : 0 ≤ b ∧ b < 256) : Go.bits .xor .u8 a b = a ↔ b = 0 := by
  rw [xor_u8]
  constructor
  · intro h
    have h2 : BitVec.ofInt 8 a ^^^ BitVec.ofInt 8 b = BitVec.ofInt 8 a := by
      apply BitVec.eq_of_toNat_eq
      rw [BitVec.toNat_ofInt (i := a)]
      omega
    have h3 := congrArg (fun z => BitVec.ofInt 8 a ^^^ z) h2
    simp only [← BitVec.xor_assoc, BitVec.xor_self, BitVec.zero_xor] at h3
    have h4 := congrArg BitVec.toNat h3
    rw [BitVec.toNat_ofInt] at h4
    have h5 : (0#8).toNat = 0 := rfl
    rw [h5] at h4
    omega
  · rintro rfl
    rw [show BitVec.ofInt 8 0 = 0#8 from rfl, BitVec.xor_zero, BitVec.toNat_ofInt]
    omega
end Go.Proofs.Ytbfmndikbbfcdaa.Sl
