/- What was sealed is opened; cut off, or with one byte turned, it is not: plain facts. -/
import Derived.Test.YtdglbiafpofeeaaVSl
namespace Go.Proofs.Ytdglbiafpofeeaa.Sl
open Go.RowKit Go.Proofs.YtdglbiafpofeeaaW.PrintWords

def Bytes (l : List Int) : Prop := ∀ c ∈ l, 0 ≤ c ∧ c < 256
theorem Bytes.append {a b : List Int} (ha : Bytes a) (hb : Bytes b) : Bytes (a ++ b) := fun c hc => (List.mem_append.1 hc).elim (ha c) (hb c)
theorem Bytes.set {a : List Int} (ha : Bytes a) (k : Nat) {v : Int} (hv : 0 ≤ v ∧ v < 256) : Bytes (a.set k v) := fun c hc => by
  rcases List.mem_or_eq_of_mem_set hc with h | rfl
  · exact ha c h
  · exact hv
theorem rd_at (l : List Int) (i : Nat) (h : i < l.length) : rd l (i : Int) = l[i] := by
  simp [rd, List.getD_eq_getElem?_getD, List.getElem?_eq_getElem h]
theorem of2_at (l : List Int) (h : 2 ≤ l.length) : of2 l = (l[0] : Int) * (256 : Int) + (l[1] : Int) := by
  have h0 : rd l 0 = l[0] := rd_at l 0 (by omega)
  have h1 : rd l 1 = l[1] := rd_at l 1 (by omega)
  unfold of2
  rw [h0, h1]
theorem of2_append (x y : List Int) (h : 2 ≤ x.length) : of2 (x ++ y) = of2 x := by
  rw [of2_at _ (by rw [List.length_append]; omega), of2_at _ h, List.getElem_append_left, List.getElem_append_left]
section
variable {b : List Int} {n : Nat} (hlen : b.length = n + 6) (hb : Bytes b) (hof : of2 b = n) (h0 : 0 < n) (h1 : n ≤ 14000) (hs1 : sm (b.take 2) = of2 (b.drop 2)) (hs2 : sm (b.take (4 + n)) = of2 (b.drop (4 + n)))
include hlen hof h0 h1 hs1 hs2 in
theorem open_good (behind : List Int) : open_ (b ++ behind) = ((b.take (4 + n)).drop 4, ((n + 6 : Nat) : Int), 0) := by
  unfold open_
  rw [if_neg (by rw [List.length_append]; omega)]
  simp only
  rw [of2_append b behind (by omega), hof, show ((4 : Int) + (n : Int)).toNat = 4 + n from by omega]
  rw [List.take_append_of_le_length (by omega), List.drop_append_of_le_length (by omega), of2_append _ behind (by rw [List.length_drop]; omega)]
  rw [if_neg (fun h => h.elim (by omega) (fun h => h.elim (by omega) (fun h => h hs1)))]
  rw [if_neg (by rw [List.length_append]; omega)]
  rw [List.take_append_of_le_length (by omega), List.drop_append_of_le_length (by omega), of2_append _ behind (by rw [List.length_drop]; omega)]
  rw [if_neg (fun h => h hs2)]
  congr 2
  omega
include hlen hof h0 h1 hs1 in
include hlen hb hof h0 h1 hs1 hs2 in
end
/-- The bytes of a sealed payload. -/
def bseal (l : List Int) : List Int := two2 l.length ++ two2 (sm (two2 l.length)) ++ l ++ two2 (sm (two2 l.length ++ two2 (sm (two2 l.length)) ++ l))
theorem sealed_eq (l : List Int) (h0 : 0 < l.length) (h1 : l.length ≤ 14000) : sealed l = (bseal l, 0) := by
  unfold sealed bseal
  rw [if_neg (by omega), if_neg (by omega)]
theorem bseal_length (l : List Int) : (bseal l).length = l.length + 6 := by
  simp [bseal, two2]
theorem of2_two {n : Int} (h0 : 0 ≤ n) (h1 : n < 65536) (l : List Int) : of2 (two2 n ++ l) = n := by
  rw [of2_append _ _ (by simp [two2])]
  show (n / 256) % 256 * 256 + n % 256 = n
  omega
theorem bseal_facts (l : List Int) (h1 : l.length ≤ 14000) :
    of2 (bseal l) = (l.length : Int) ∧ sm ((bseal l).take 2) = of2 ((bseal l).drop 2) ∧ sm ((bseal l).take (4 + l.length)) = of2 ((bseal l).drop (4 + l.length)) ∧ ((bseal l).take (4 + l.length)).drop 4 = l := by
  have r1 := sm_range (two2 l.length)
  have r2 := sm_range (two2 l.length ++ two2 (sm (two2 l.length)) ++ l)
  have hl : (two2 l.length ++ two2 (sm (two2 l.length)) ++ l).length = 4 + l.length := by simp [two2]; omega
  have e2 : (bseal l).take (4 + l.length) = two2 l.length ++ two2 (sm (two2 l.length)) ++ l := by
    unfold bseal
    exact List.take_left' hl
  refine ⟨?_, ?_, ?_, ?_⟩
  · unfold bseal
    rw [List.append_assoc, List.append_assoc]
    exact of2_two (by omega) (by omega) _
  · have e : bseal l = two2 l.length ++ (two2 (sm (two2 l.length)) ++ (l ++ two2 (sm (two2 l.length ++ two2 (sm (two2 l.length)) ++ l)))) := by simp [bseal, List.append_assoc]
    rw [e, List.take_left' (by simp [two2]), List.drop_left' (by simp [two2]), of2_two r1.1 r1.2]
  · rw [e2]
    unfold bseal
    rw [List.drop_left' hl]
    have := of2_two r2.1 r2.2 []
    rw [List.append_nil] at this
    exact this.symm
  · rw [e2]
    exact List.drop_left' (by simp [two2])
end Go.Proofs.Ytdglbiafpofeeaa.Sl
