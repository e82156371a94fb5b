/- The pack's numbers: how many bytes one needs, its bytes, and the number of bytes: plain facts, no program in sight. -/
import Derived.Test.YtbfmndikbbfcdaaCrc
namespace Go.Proofs.Ytbfmndikbbfcdaa.Pk
open Go.RowKit Go.Proofs.YtbfmndikbbfcdaaW.PrintWords

def widLoop : Nat → Nat → Int → Nat
  | 0, w, _ => w
  | d + 1, w, n => if n / 2 ^ (8 * w - 1) = 0 ∨ n / 2 ^ (8 * w - 1) = -1 then w else widLoop d (w + 1) n
/-- How many bytes a number needs. -/
def wid (n : Int) : Nat := if n = 0 then 0 else widLoop 7 1 n
theorem widLoop_le : ∀ (d w : Nat) (n : Int), widLoop d w n ≤ w + d
  | 0, w, _ => by unfold widLoop; omega
  | d + 1, w, n => by
    unfold widLoop
    split
    · omega
    · have := widLoop_le d (w + 1) n; omega
theorem wid_le (n : Int) : wid n ≤ 8 := by
  unfold wid
  split
  · omega
  · exact widLoop_le 7 1 n
/-- A number's last bytes, the greatest first. -/
def be : Nat → Int → List Int
  | 0, _ => []
  | k + 1, n => (n / 2 ^ (8 * k)) % 256 :: be k n
theorem be_length : ∀ (k : Nat) (n : Int), (be k n).length = k
  | 0, _ => rfl
  | k + 1, n => by rw [be, List.length_cons, be_length k n]
theorem be_byte : ∀ (k : Nat) (n : Int), ∀ x ∈ be k n, 0 ≤ x ∧ x < 256
  | 0, _, x, h => by cases h
  | k + 1, n, x, h => by
    rcases List.mem_cons.1 h with rfl | h
    · omega
    · exact be_byte k n x h
theorem pow8 (k : Nat) : (2 : Int) ^ (8 * (k + 1)) = 256 * 2 ^ (8 * k) := by
  rw [show 8 * (k + 1) = 8 * k + 8 from by omega, Int.pow_add]
  omega
theorem ediv256 (x p : Int) : x / (256 * p) = x / 256 / p := by rw [Int.ediv_ediv, if_neg (by omega), Int.sub_zero]
theorem be_snoc : ∀ (k : Nat) (x c : Int), 0 ≤ c → c < 256 → be (k + 1) (x * 256 + c) = be k x ++ [c]
  | 0, x, c, h0, h1 => by simp [be]; omega
  | k + 1, x, c, h0, h1 => by
    rw [be, be_snoc k x c h0 h1, be, List.cons_append]
    congr 1
    rw [pow8, ediv256, show (x * 256 + c) / 256 = x from by omega]
/-- A number of bytes: the first one with its sign. -/
def i8 (c : Int) : Int := if 128 ≤ c then c - 256 else c
def val : List Int → Int
  | [] => 0
  | c :: l => l.foldl (fun x d => x * 256 + d) (i8 c)
theorem be_fold : ∀ (l : List Int) (x : Int) (pre : List Int), (∀ c ∈ l, 0 ≤ c ∧ c < 256) → be pre.length x = pre →
    be (pre.length + l.length) (l.foldl (fun x d => x * 256 + d) x) = pre ++ l
  | [], x, pre, _, h => by simpa using h
  | c :: l, x, pre, hl, h => by
    have hc := hl c (List.mem_cons_self ..)
    have := be_fold l (x * 256 + c) (pre ++ [c]) (fun d hd => hl d (List.mem_cons_of_mem _ hd)) (by
      rw [List.length_append, List.length_singleton, be_snoc _ _ _ hc.1 hc.2, h])
    rw [List.foldl_cons]
    rw [List.length_append, List.length_singleton, List.append_assoc] at this
    rw [List.length_cons, show pre.length + (l.length + 1) = pre.length + 1 + l.length from by omega, this]
    rfl
/-- The bytes of the number of bytes are these bytes. -/
theorem be_val (l : List Int) (h : ∀ c ∈ l, 0 ≤ c ∧ c < 256) : be l.length (val l) = l := by
  cases l with
  | nil => rfl
  | cons c l =>
    have hc := h c (List.mem_cons_self ..)
    have := be_fold l (i8 c) [c] (fun d hd => h d (List.mem_cons_of_mem _ hd)) (by
      simp only [List.length_singleton, be, i8]
      split <;> simp <;> omega)
    rw [List.length_singleton, Nat.add_comm] at this
    exact this
def Fits : Nat → Int → Prop
  | 0, n => n = 0
  | k + 1, n => -(128 * (2 : Int) ^ (8 * k)) ≤ n ∧ n < 128 * 2 ^ (8 * k)
theorem fits_iff (k : Nat) (n : Int) : Fits (k + 1) n ↔ -(128 * (2 : Int) ^ (8 * k)) ≤ n ∧ n < 128 * 2 ^ (8 * k) := Iff.rfl
theorem fits_snoc (k : Nat) (x c : Int) (h : Fits (k + 1) x) (h0 : 0 ≤ c) (h1 : c < 256) : Fits (k + 2) (x * 256 + c) := by
  rw [fits_iff] at h
  rw [fits_iff, pow8]
  omega
theorem fits_snoc' (k : Nat) (x c : Int) (hk : 0 < k) (h : Fits k x) (h0 : 0 ≤ c) (h1 : c < 256) : Fits (k + 1) (x * 256 + c) := by
  obtain ⟨k, rfl⟩ : ∃ j, k = j + 1 := ⟨k - 1, by omega⟩
  exact fits_snoc k x c h h0 h1
theorem fits_i8 (c : Int) (h0 : 0 ≤ c) (h1 : c < 256) : Fits 1 (i8 c) := by
  rw [fits_iff]
  unfold i8
  split <;> omega
theorem pow_mono {j k : Nat} (h : j ≤ k) : (2 : Int) ^ j ≤ 2 ^ k := by exact_mod_cast Nat.pow_le_pow_right (by decide) h
theorem fits_range {k : Nat} {n : Int} (h : Fits k n) (hk : k ≤ 8) : -9223372036854775808 ≤ n ∧ n ≤ 9223372036854775807 := by
  cases k with
  | zero => unfold Fits at h; omega
  | succ k =>
    unfold Fits at h
    have h8 : (2 : Int) ^ (8 * k) ≤ 72057594037927936 := by
      have := pow_mono (show 8 * k ≤ 56 from by omega)
      exact this
    omega
/-- The number of the bytes of a number that fits is that number. -/
theorem val_be (k : Nat) (n : Int) (h : Fits (k + 1) n) : val (be (k + 1) n) = n := by
  have key : ∀ (j : Nat) (n : Int) , ∃ c l, be (j + 1) n = c :: l ∧ l.foldl (fun x d => x * 256 + d) (n / 2 ^ (8 * j)) = n ∧ c = (n / 2 ^ (8 * j)) % 256 := by
    intro j
    induction j with
    | zero => intro n; exact ⟨n % 256, [], by simp [be], by simp, by simp⟩
    | succ j ih =>
      intro n
      obtain ⟨c, l, h1, h2, h3⟩ := ih (n / 256)
      have hn : n = (n / 256) * 256 + n % 256 := by omega
      refine ⟨c, l ++ [n % 256], ?_, ?_, ?_⟩
      · conv => lhs; rw [hn]
        rw [be_snoc _ _ _ (by omega) (by omega), h1]
        rfl
      · rw [List.foldl_append, pow8, ediv256, h2]
        simp only [List.foldl_cons, List.foldl_nil]
        omega
      · rw [h3, pow8, ediv256]
  obtain ⟨c, l, h1, h2, h3⟩ := key k n
  rw [h1, val]
  have : i8 c = n / 2 ^ (8 * k) := by
    rw [fits_iff] at h
    obtain ⟨hl, hu⟩ := h
    have hp : (0 : Int) < 2 ^ (8 * k) := Int.pow_pos (by decide)
    generalize (2 : Int) ^ (8 * k) = p at *
    have a1 : -128 ≤ n / p := by
      apply Int.le_ediv_of_mul_le hp
      omega
    have a2 : n / p < 128 := by
      apply Int.ediv_lt_of_lt_mul hp
      omega
    unfold i8
    rw [h3]
    split <;> omega
  rw [this, h2]
theorem or_byte (x c : Int) (h0 : 0 ≤ c) (h1 : c < 256) (hr : -9223372036854775808 ≤ x * 256 ∧ x * 256 < 9223372036854775808) : Go.bits .or .i64 (x * 256) c = x * 256 + c := by
  have hx : BitVec.ofInt 64 (x * 256) &&& BitVec.ofInt 64 c = 0#64 := by
    apply BitVec.eq_of_getLsbD_eq
    intro i hi
    rw [BitVec.getLsbD_and, BitVec.getLsbD_zero]
    have e1 : BitVec.ofInt 64 (x * 256) = BitVec.ofInt 64 x <<< 8 := by
      apply BitVec.eq_of_toNat_eq
      rw [BitVec.toNat_ofInt, BitVec.toNat_shiftLeft, Nat.shiftLeft_eq, BitVec.toNat_ofInt]
      omega
    rw [e1, BitVec.getLsbD_shiftLeft]
    by_cases h8 : i < 8
    · simp [h8]
    · have : (BitVec.ofInt 64 c).getLsbD i = false := by
        rw [BitVec.getLsbD]
        apply Nat.testBit_lt_two_pow
        have : (BitVec.ofInt 64 c).toNat < 2 ^ 8 := by rw [BitVec.toNat_ofInt]; omega
        exact Nat.lt_of_lt_of_le this (Nat.pow_le_pow_right (by decide) (by omega))
      rw [this, Bool.and_false]
  have e : BitVec.ofInt 64 (x * 256) ||| BitVec.ofInt 64 c = BitVec.ofInt 64 (x * 256 + c) := by
    rw [← BitVec.add_eq_or_of_and_eq_zero _ _ hx, BitVec.ofInt_add]
  show IntKind.i64.wrap ((BitVec.ofInt 64 (x * 256) ||| BitVec.ofInt 64 c).toNat : Int) = _
  rw [e, IntKind.wrap_i64, BitVec.toNat_ofInt]
  omega
theorem i8_wrap (c : Int) (h0 : 0 ≤ c) (h1 : c < 256) : IntKind.i8.wrap c = i8 c := by
  unfold i8
  simp [IntKind.wrap, IntKind.bits, IntKind.signed]
  split <;> split <;> omega
theorem shr_at (x : Int) (w : Nat) (h : 8 * w ≤ 64) (hw : 0 < w) : shr .i64 x (8 * (w : Int) - 1) = x / 2 ^ (8 * w - 1) := by
  unfold shr
  congr 2
  simp only [IntKind.bits]
  omega
theorem shr_byte (x : Int) (w : Nat) (h : 8 * w ≤ 64) : shr .i64 x (8 * (w : Int)) = x / 2 ^ (8 * w) := by
  unfold shr
  congr 2
  simp only [IntKind.bits]
  omega
theorem u64_id {n : Int} (h0 : 0 ≤ n) (h1 : n < 18446744073709551616) : IntKind.u64.wrap n = n := by
  simp [IntKind.wrap, IntKind.bits, IntKind.signed]
  omega
/-- What is taken of bytes: the number, how many bytes, the error. -/
def take (l : List Int) : Int × Int × Int :=
  match l with
  | [] => (0, 0, 5)
  | w :: l => if 8 < w then (0, 0, 2) else if (l.length : Int) < w then (0, 0, 5) else
    if wid (val (l.take w.toNat)) = w.toNat then (val (l.take w.toNat), 1 + w, 0) else (0, 0, 2)
theorem take_ok (l : List Int) (hb : ∀ c ∈ l, 0 ≤ c ∧ c < 256) : (take l).2.2 = 0 → 1 ≤ (take l).2.1 ∧ (take l).2.1 ≤ (l.length : Int) ∧ (take l).2.1 ≤ 9 := by
  cases l with
  | nil => intro h; simp [take] at h
  | cons w l =>
    have hw := hb w (List.mem_cons_self ..)
    unfold take
    simp only
    split
    · intro h; simp at h
    · split
      · intro h; simp at h
      · split
        · intro _
          simp only [List.length_cons]
          omega
        · intro h; simp at h
/-- What text is taken of bytes. -/
def takeText (l : List Int) : ByteArray × Int × Int :=
  if (take l).2.2 = 0 then
    if (take l).1 < 0 then (⟨#[]⟩, 0, 2) else if (take l).1 > (l.length : Int) - (take l).2.1 then (⟨#[]⟩, 0, 5) else
      (strOfNums ((l.take ((take l).2.1 + (take l).1).toNat).drop (take l).2.1.toNat), (take l).2.1 + (take l).1, 0)
  else (⟨#[]⟩, 0, (take l).2.2)
def number (n : Int) : List Int := (wid n : Int) :: be (wid n) n
theorem str_list (l : List Int) : (strOfNums l).toList = l.map fun n => UInt8.ofNat n.toNat := by
  unfold strOfNums
  rw [ByteArray.toList_eq]
theorem str_inj {a b : List Int} (ha : ∀ c ∈ a, 0 ≤ c ∧ c < 256) (hb : ∀ c ∈ b, 0 ≤ c ∧ c < 256) (h : (strOfNums a).toList = (strOfNums b).toList) : a = b := by
  rw [str_list, str_list] at h
  induction a generalizing b with
  | nil => cases b with
    | nil => rfl
    | cons _ _ => cases h
  | cons x a ih => cases b with
    | nil => cases h
    | cons y b =>
      rw [List.map_cons, List.map_cons] at h
      injection h with h1 h2
      have hx := ha x (List.mem_cons_self ..)
      have hy := hb y (List.mem_cons_self ..)
      have := congrArg UInt8.toNat h1
      rw [UInt8.toNat_ofNat', UInt8.toNat_ofNat'] at this
      rw [ih (fun c hc => ha c (List.mem_cons_of_mem _ hc)) (fun c hc => hb c (List.mem_cons_of_mem _ hc)) h2]
      congr 1
      omega
theorem str_size (l : List Int) : (strOfNums l).size = l.length := by
  unfold strOfNums
  simp [ByteArray.size]
theorem str_append (a b : List Int) : strOfNums (a ++ b) = strOfNums a ++ strOfNums b := by
  apply ByteArray.ext
  simp [strOfNums, ByteArray.data_append]
def total (l : List (List Int)) : Nat := (l.map List.length).sum
theorem total_cons (a : List Int) (l : List (List Int)) : total (a :: l) = a.length + total l := by simp [total]
theorem bytes_of {l : List Int} (h : ∀ x ∈ l, (Lit.int .u8 x).wf = true) : ∀ c ∈ l, 0 ≤ c ∧ c < 256 := by
  intro c hc
  have := h c hc
  simp [Lit.wf, IntKind.min, IntKind.max, IntKind.signed, IntKind.bits] at this
  omega
def text (s : ByteArray) : List Int := number (s.size : Int) ++ bytesOf s
end Go.Proofs.Ytbfmndikbbfcdaa.Pk
