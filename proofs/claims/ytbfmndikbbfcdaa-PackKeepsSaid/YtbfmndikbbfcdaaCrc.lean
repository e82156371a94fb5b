/- The sum of the seal as a fold over bit vectors, and what it tells of its bytes: plain facts, no program in sight. -/
import Derived.Test.YtbfmndikbbfcdaaWMore
import Derived.Laws.BitsLemmas
namespace Go.Proofs.Ytbfmndikbbfcdaa.Crc
open Go.RowKit Go.Proofs.YtbfmndikbbfcdaaW.PrintWords

theorem Ev_ite_pos {α : Type} {c : Prop} [Decidable c] {a b : Nat → Option α} {r : α} (hc : c) (h : Ev a r) : Ev (fun k => if c then a k else b k) r :=
  Ev.congr (fun _ => if_pos hc) h
theorem Ev_ite_neg {α : Type} {c : Prop} [Decidable c] {a b : Nat → Option α} {r : α} (hc : ¬ c) (h : Ev b r) : Ev (fun k => if c then a k else b k) r :=
  Ev.congr (fun _ => if_neg hc) h
theorem Ev_val {α : Type} {a r : α} (h : a = r) : Ev (fun _ => some a) r := h ▸ Ev.now a
theorem Ev_let {α β : Type} {a : α} {f : Nat → α → Option β} {r : β} (h : Ev (fun k => f k a) r) : Ev (fun k => (some a).bind (f k)) r :=
  Ev.congr (fun _ => rfl) h
theorem Ev_const {α β : Type} {o : Option α} {a : α} {f : Nat → α → Option β} {r : β} (ho : o = some a) (h : Ev (fun k => f k a) r) : Ev (fun k => o.bind (f k)) r := by
  subst ho; exact Ev_let h

theorem wrap64_id {n : Int} (h0 : -9223372036854775808 ≤ n) (h1 : n < 9223372036854775808) : wrap64 n = n := by unfold wrap64; omega
theorem u16_wrap (n : Int) : IntKind.u16.wrap n = n % 65536 := by simp [IntKind.wrap, IntKind.bits, IntKind.signed]
theorem u16_toNat (n : Int) : IntKind.u16.wrap n = ((BitVec.ofInt 16 n).toNat : Int) := by
  rw [u16_wrap, BitVec.toNat_ofInt]
  omega
theorem ofInt_toNat (s : BitVec 16) : BitVec.ofInt 16 (s.toNat : Int) = s := by
  apply BitVec.eq_of_toNat_eq
  rw [BitVec.toNat_ofInt]
  have := s.isLt
  omega
theorem ofInt_wrap (n : Int) : BitVec.ofInt 16 (IntKind.u16.wrap n) = BitVec.ofInt 16 n := by rw [u16_toNat, ofInt_toNat]
theorem wrap_toNat (s : BitVec 16) : IntKind.u16.wrap (s.toNat : Int) = s.toNat := by rw [u16_toNat, ofInt_toNat]
theorem xor_u16 (a b : Int) : Go.bits .xor .u16 a b = ((BitVec.ofInt 16 a ^^^ BitVec.ofInt 16 b).toNat : Int) := by
  unfold Go.bits
  exact wrap_toNat _
theorem and_u16 (a b : Int) : Go.bits .and .u16 a b = ((BitVec.ofInt 16 a &&& BitVec.ofInt 16 b).toNat : Int) := by
  unfold Go.bits
  exact wrap_toNat _

def step (s : BitVec 16) : BitVec 16 := if s.msb then (s <<< 1) ^^^ 0x1021#16 else s <<< 1
def steps : Nat → BitVec 16 → BitVec 16
  | 0, s => s
  | n + 1, s => steps n (step s)
def upd (s : BitVec 16) (c : Int) : BitVec 16 := steps 8 (s ^^^ BitVec.ofInt 16 (c * 256))
def sum (l : List Int) : BitVec 16 := l.foldl upd 0xffff#16

theorem msb_iff (s : BitVec 16) : s.msb = decide (32768 ≤ s.toNat) := by
  rw [BitVec.msb_eq_decide]
theorem double (s : BitVec 16) : BitVec.ofInt 16 (((s.toNat : Nat) : Int) * 2) = s <<< 1 := by
  apply BitVec.eq_of_toNat_eq
  rw [BitVec.toNat_ofInt, BitVec.toNat_shiftLeft, Nat.shiftLeft_eq]
  omega
theorem impl_step (s : BitVec 16) : Go.bits .xor .u16 (IntKind.u16.wrap ((s.toNat : Int) * 2)) (IntKind.u16.wrap (((s.toNat : Int) / 32768) * 4129)) = ((step s).toNat : Int) := by
  rw [xor_u16, ofInt_wrap, ofInt_wrap, double]
  unfold step
  rw [msb_iff]
  have hs := s.isLt
  by_cases h : 32768 ≤ s.toNat
  · have : ((s.toNat : Nat) : Int) / 32768 = 1 := by omega
    rw [this, decide_eq_true h]
    rfl
  · have : ((s.toNat : Nat) : Int) / 32768 = 0 := by omega
    rw [this, decide_eq_false h]
    simp
theorem ref_test (s : BitVec 16) : Go.bits .and .u16 (s.toNat : Int) 32768 = 0 ↔ s.msb = false := by
  rw [and_u16, ofInt_toNat, show BitVec.ofInt 16 32768 = BitVec.twoPow 16 15 from rfl]
  rw [show (((s &&& BitVec.twoPow 16 15).toNat : Nat) : Int) = 0 ↔ s &&& BitVec.twoPow 16 15 = 0#16 from by
    rw [show ((0#16 : BitVec 16)) = BitVec.ofNat 16 0 from rfl, ← BitVec.toNat_inj]
    simp]
  rw [BitVec.and_twoPow, BitVec.msb_eq_getLsbD_last]
  cases s.getLsbD 15 <;> decide
theorem ref_shift (s : BitVec 16) (h : s.msb = false) : IntKind.u16.wrap ((s.toNat : Int) * 2) = ((step s).toNat : Int) := by
  rw [u16_toNat, double]
  unfold step
  rw [h]
  rfl
theorem ref_xor (s : BitVec 16) (h : s.msb = true) : Go.bits .xor .u16 (IntKind.u16.wrap ((s.toNat : Int) * 2)) 4129 = ((step s).toNat : Int) := by
  rw [xor_u16, ofInt_wrap, double]
  unfold step
  rw [h]
  rfl
theorem start_byte (s : BitVec 16) (c : Int) : Go.bits .xor .u16 (s.toNat : Int) (IntKind.u16.wrap ((IntKind.u16.wrap c) * 256)) = ((s ^^^ BitVec.ofInt 16 (c * 256)).toNat : Int) := by
  rw [xor_u16, ofInt_toNat, ofInt_wrap]
  congr 3
  apply BitVec.eq_of_toNat_eq
  rw [BitVec.toNat_ofInt, BitVec.toNat_ofInt, u16_wrap]
  omega

/-- A step loses nothing. -/
theorem step_inj {s t : BitVec 16} (h : step s = step t) : s = t := by
  have key : ∀ s : BitVec 16, (step s).getLsbD 0 = s.msb := by
    intro s
    unfold step
    cases hs : s.msb <;> simp
  have hm : s.msb = t.msb := by rw [← key s, ← key t, h]
  have h2 : s <<< 1 = t <<< 1 := by
    unfold step at h
    rw [hm] at h
    cases ht : t.msb
    · simpa [ht] using h
    · simp only [ht, if_true] at h
      have := congrArg (fun z => z ^^^ 0x1021#16) h
      simpa [BitVec.xor_assoc] using this
  have h3 := congrArg BitVec.toNat h2
  rw [BitVec.toNat_shiftLeft, BitVec.toNat_shiftLeft, Nat.shiftLeft_eq, Nat.shiftLeft_eq] at h3
  rw [msb_iff, msb_iff] at hm
  apply BitVec.eq_of_toNat_eq
  have hs := s.isLt
  have ht := t.isLt
  by_cases a : 32768 ≤ s.toNat <;> by_cases b : 32768 ≤ t.toNat <;> simp [a, b] at hm <;> omega
theorem steps_inj : ∀ (n : Nat) {s t : BitVec 16}, steps n s = steps n t → s = t
  | 0, _, _, h => h
  | n + 1, _, _, h => step_inj (steps_inj n h)
theorem upd_inj {s t : BitVec 16} {c : Int} (h : upd s c = upd t c) : s = t := by
  have := steps_inj 8 h
  have := congrArg (fun z => z ^^^ BitVec.ofInt 16 (c * 256)) this
  simpa [BitVec.xor_assoc] using this
theorem upd_byte {s : BitVec 16} {c d : Int} (hc0 : 0 ≤ c) (hc : c < 256) (hd0 : 0 ≤ d) (hd : d < 256) (h : upd s c = upd s d) : c = d := by
  have := steps_inj 8 h
  have := congrArg (fun z => s ^^^ z) this
  simp only [← BitVec.xor_assoc, BitVec.xor_self, BitVec.zero_xor] at this
  have := congrArg BitVec.toNat this
  rw [BitVec.toNat_ofInt, BitVec.toNat_ofInt] at this
  omega
theorem fold_inj : ∀ (l : List Int) {s t : BitVec 16}, l.foldl upd s = l.foldl upd t → s = t
  | [], _, _, h => h
  | _ :: l, _, _, h => upd_inj (fold_inj l h)
/-- Two rows of bytes that part at one place have two sums. -/
theorem sum_turned (a b : List Int) {c d : Int} (hc0 : 0 ≤ c) (hc : c < 256) (hd0 : 0 ≤ d) (hd : d < 256) (h : sum (a ++ c :: b) = sum (a ++ d :: b)) : c = d := by
  unfold sum at h
  rw [List.foldl_append, List.foldl_append, List.foldl_cons, List.foldl_cons] at h
  exact upd_byte hc0 hc hd0 hd (fold_inj b h)
theorem sum_lt (l : List Int) : (sum l).toNat < 65536 := (sum l).isLt
end Go.Proofs.Ytbfmndikbbfcdaa.Crc
