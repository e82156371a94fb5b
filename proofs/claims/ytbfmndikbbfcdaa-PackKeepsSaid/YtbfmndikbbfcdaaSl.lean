/- What the seal seals and opens, as plain functions on lists of bytes. -/
import Derived.Test.YtbfmndikbbfcdaaPk
namespace Go.Proofs.Ytbfmndikbbfcdaa.Sl
open Go.RowKit Go.Proofs.YtbfmndikbbfcdaaW.PrintWords

def sm (l : List Int) : Int := (Crc.sum l).toNat
theorem sm_range (l : List Int) : 0 ≤ sm l ∧ sm l < 65536 := by
  have := Crc.sum_lt l
  unfold sm
  omega
def of2 (l : List Int) : Int := rd l 0 * 256 + rd l 1
def two2 (n : Int) : List Int := [(n / 256) % 256, n % 256]
theorem two2_byte (n : Int) : ∀ c ∈ two2 n, 0 ≤ c ∧ c < 256 := by
  intro c hc
  simp only [two2, List.mem_cons, List.not_mem_nil, or_false] at hc
  rcases hc with rfl | rfl <;> omega
theorem two2_eq {n a b : Int} (h0 : 0 ≤ n) (h1 : n < 65536) (ha : 0 ≤ a ∧ a < 256) (hb : 0 ≤ b ∧ b < 256) : two2 n = [a, b] ↔ n = a * 256 + b := by
  unfold two2
  constructor
  · intro h
    injection h with e1 e2
    injection e2 with e2 _
    omega
  · intro h
    have e1 : n / 256 % 256 = a := by omega
    have e2 : n % 256 = b := by omega
    rw [e1, e2]
def sealed (l : List Int) : List Int × Int :=
  if (l.length : Int) = 0 then ([], 1) else if (l.length : Int) > 14000 then ([], 4) else
    let h := two2 l.length
    let b := h ++ two2 (sm h) ++ l
    (b ++ two2 (sm b), 0)
def open_ (l : List Int) : List Int × Int × Int :=
  if (l.length : Int) < 4 then ([], 0, 5) else
    let n := of2 l
    if n = 0 ∨ n > 14000 ∨ sm (l.take 2) ≠ of2 (l.drop 2) then ([], 0, 9) else
    if (l.length : Int) < 6 + n then ([], 0, 5) else
    if sm (l.take (4 + n).toNat) ≠ of2 (l.drop (4 + n).toNat) then ([], 0, 9) else
      ((l.take (4 + n).toNat).drop 4, 6 + n, 0)
theorem rd_cons0 (a : Int) (l : List Int) : rd (a :: l) 0 = a := rfl
theorem rd_cons1 (a b : Int) (l : List Int) : rd (a :: b :: l) 1 = b := rfl
theorem rd_byte {l : List Int} (hb : ∀ c ∈ l, 0 ≤ c ∧ c < 256) (i : Int) : 0 ≤ rd l i ∧ rd l i < 256 := by
  unfold rd
  rw [List.getD_eq_getElem?_getD]
  rcases Nat.lt_or_ge i.toNat l.length with h | h
  · rw [List.getElem?_eq_getElem h]
    exact hb _ (List.getElem_mem h)
  · rw [List.getElem?_eq_none h]
    simp
theorem of2_range {l : List Int} (hb : ∀ c ∈ l, 0 ≤ c ∧ c < 256) : 0 ≤ of2 l ∧ of2 l < 65536 := by
  have h0 := rd_byte hb 0
  have h1 := rd_byte hb 1
  unfold of2
  omega
theorem u16_id {n : Int} (h0 : 0 ≤ n) (h1 : n < 65536) : IntKind.u16.wrap n = n := by rw [Crc.u16_wrap]; omega
theorem or_u16 (a b : Int) (ha : 0 ≤ a ∧ a < 256) (hb : 0 ≤ b ∧ b < 256) : Go.bits .or .u16 (a * 256) b = a * 256 + b := by
  refine bits_join .u16 16 (by decide) ?_ 8 (a * 256) b (by omega) (by omega) (by omega) hb.1 (by omega) (by omega)
  intro n h0 h1
  exact u16_id h0 (by omega)
theorem drop_two {l : List Int} {k : Nat} (h : k + 2 ≤ l.length) : (l.take (k + 2)).drop k = [rd (l.drop k) 0, rd (l.drop k) 1] := by
  rw [List.drop_take]
  have e : l.drop k = rd (l.drop k) 0 :: rd (l.drop k) 1 :: l.drop (k + 2) := by
    rw [List.drop_eq_getElem_cons (by omega), List.drop_eq_getElem_cons (i := k + 1) (by omega)]
    rfl
  rw [show k + 2 - k = 2 from by omega]
  conv => lhs; rw [e]
  rfl
theorem two_str {l : List Int} {k : Nat} (n : Int) (h : k + 2 ≤ l.length) (hb : ∀ c ∈ l, 0 ≤ c ∧ c < 256) (h0 : 0 ≤ n) (h1 : n < 65536) :
    (strOfNums (two2 n)).toList = (strOfNums ((l.take (k + 2)).drop k)).toList ↔ n = of2 (l.drop k) := by
  have hd : ∀ c ∈ l.drop k, 0 ≤ c ∧ c < 256 := fun c hc => hb c (List.mem_of_mem_drop hc)
  have ha := rd_byte hd 0
  have hb1 := rd_byte hd 1
  rw [drop_two h]
  unfold of2
  rw [← two2_eq h0 h1 ha hb1]
  constructor
  · intro e
    refine Pk.str_inj (two2_byte n) ?_ e
    intro c hc
    simp only [List.mem_cons, List.not_mem_nil, or_false] at hc
    rcases hc with rfl | rfl
    · exact ha
    · exact hb1
  · intro e
    rw [e]
theorem two_len (n : Int) : (two2 n).length = 2 := rfl
end Go.Proofs.Ytbfmndikbbfcdaa.Sl
