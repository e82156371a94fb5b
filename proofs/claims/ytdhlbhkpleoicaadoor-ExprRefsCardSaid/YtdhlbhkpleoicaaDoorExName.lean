/- A name: of letters, digits and dashes below. -/
import Derived.Test.YtdhlbhkpleoicaaDoorPExprEvalsx
import Derived.Test.YtdhlbhkpleoicaaDoorExCount
import Derived.Laws.RangeAny
import Derived.LoopTactic
namespace Go.Proofs.YtdhlbhkpleoicaaDoor.Exp
open Go.RowKit Go.Proofs.YtdhlbhkpleoicaaDoorW.PrintWords Go.Proofs.YtdhlbhkpleoicaaDoorW.PrintLast Go.Proofs.YtdhlbhkpleoicaaDoorW.PrintMore Go.Proofs.YtdhlbhkpleoicaaDoor.PExprEvals
set_option linter.unusedVariables false
set_option linter.unusedSimpArgs false
def letterB (r : Int) : Bool := decide (97 ≤ r ∧ r ≤ 122 ∨ 65 ≤ r ∧ r ≤ 90 ∨ 1072 ≤ r ∧ r ≤ 1103)
def digitB (r : Int) : Bool := decide (48 ≤ r ∧ r ≤ 57)
def insideB (r : Int) : Bool := letterB r || digitB r || r == 95
theorem letter_f (r : Int) : glyph_Letter.f r = some (letterB r) := by
  unfold glyph_Letter.f letterB
  repeat' split
  all_goals simp only [Option.some.injEq]
  all_goals first | (symm; rw [decide_eq_true_eq]; omega) | (symm; rw [decide_eq_false_iff_not]; omega) | (rw [decide_eq_decide]; omega)
theorem digit_f (r : Int) : glyph_digit.f r = some (digitB r) := by
  unfold glyph_digit.f digitB
  repeat' split
  all_goals simp only [Option.some.injEq]
  all_goals first | (symm; rw [decide_eq_true_eq]; omega) | (symm; rw [decide_eq_false_iff_not]; omega) | (rw [decide_eq_decide]; omega)
theorem inside_f (r : Int) : glyph_inside.f r = some (insideB r) := by
  unfold glyph_inside.f insideB
  rw [letter_f, digit_f]
  cases letterB r <;> cases digitB r <;> simp
/-- The runes from pos on (n of them were ahead) are a name's. -/
def nm (s : ByteArray) : Nat → Nat → Int → Bool
  | 0, _, _ => false
  | b + 1, pos, n =>
    if pos < s.size then
      if (!insideB ((Utf8.decode s pos).1 : Int) || (decide (pos = 0) && !letterB ((Utf8.decode s pos).1 : Int))) = true then false
      else nm s b (pos + (Utf8.decode s pos).2) (wrap64 (n + 1))
    else decide (0 < n ∧ n ≤ 24)
def isName (s : ByteArray) : Bool := nm s (s.size + 1) 0 0
theorem width_pos (s : ByteArray) (pos : Nat) (h : pos < s.size) : 1 ≤ (Utf8.decode s pos).2 := by
  by_cases ha : (s[pos]'h).toNat < 128
  · rw [decode_ascii s pos h ha]
    exact Nat.le_refl _
  · exact (decode_high s pos h (by omega)).2
theorem iter_drewN (w : World) (s : ByteArray) (p m k : Nat) : ((w.drewN m).iter s p).drewN k = (w.drewN (m + k)).iter s p := by
  simp [World.iter, World.alloc, World.drewN, Nat.add_assoc]
set_option maxHeartbeats 2000000 in
set_option maxRecDepth 100000 in
theorem Name_calls (s : ByteArray) (w : World) : Calls Tryd.prog 37 #[.string s] w fun e w' => e = .returned (.bool (isName s)) ∧ Below w.heap.size w w' := by
  go_enter Tryd.func37, Tryd.ntmps37
  go_wp2
  go_loopg [3] (s.size + 1) (fun kq v3 w' => ∃ (pos : Nat) (n : Int) (m : Nat), v3 = .int .i64 n ∧ w' = (w.drewN m).iter s pos ∧ Aside0 (s.size < pos + kq ∧ 1 ≤ kq) ∧ Aside0 (nm s kq pos n = isName s))
  case atStart => exact ⟨0, 0, 0, rfl, rfl, ⟨by omega⟩, ⟨rfl⟩⟩
  case round =>
    obtain ⟨pos, n, m, rfl, rfl, hk, hn⟩ := hrel
    cases gk with
    | zero => exact absurd hk.out.2 (by omega)
    | succ k1 =>
      by_cases hp : pos < s.size
      · have hp' := Aside0.mk hp
        have hnx : ∀ ty, (Instr.next (.pointer (some ⟨w.heap.size, 0, none⟩)) true ty).run Tryd.prog ((w.drewN m).iter s pos) = _ := fun ty => run_next_any (w.drewN m) s pos ty hp
        have hwd := Aside0.mk (width_pos s pos hp)
        obtain ⟨r, hr⟩ : ∃ r, ((Utf8.decode s pos).1 : Int) = r := ⟨_, rfl⟩
        have hnm : Aside0 (nm s (k1 + 1) pos n = if (!insideB r || (decide (pos = 0) && !letterB r)) = true then false else nm s k1 (pos + (Utf8.decode s pos).2) (wrap64 (n + 1))) := ⟨by
          rw [← hr]
          show (if pos < s.size then _ else _) = _
          rw [if_pos hp]⟩
        have c1 := Aside0.mk (fun w => glyph_inside.calls r (insideB r) w (inside_f r))
        have c2 := Aside0.mk (fun w => glyph_Letter.calls r (letterB r) w (letter_f r))
        simp only [hr] at hnx
        clear hp hr
        have hw : ∀ p m4, Below w.heap.size w (((w.drewN m).iter s p).drewN m4) := fun p m4 => pw_below_drewN (below_alloc (pw_below_drewN (Below.refl _ _) _) _) _
        have hw' := Aside0.mk hw
        clear hw
        cases hi : insideB r with
        | false =>
          rw [hi] at c1 hnm
          have hE : Aside0 (isName s = false) := ⟨by rw [← hn.out, hnm.out]; simp⟩
          go_wp2_with (first | (go_at_call 51; refine (c1.out _).mono ?_; rintro e w4 ⟨rfl, ⟨m4, rfl⟩⟩) | fail)
          go_ret
          rw [hE.out]
          exact ⟨rfl, by first | exact hw'.out _ _ | exact pw_below_drewN (hw'.out _ _) _⟩
        | true =>
          rw [hi] at c1 hnm
          by_cases h0 : pos = 0
          · subst h0
            cases hl : letterB r with
            | false =>
              rw [hl] at c2 hnm
              have hE : Aside0 (isName s = false) := ⟨by rw [← hn.out, hnm.out]; simp⟩
              go_wp2_with (first | (go_at_call 51; refine (c1.out _).mono ?_; rintro e w4 ⟨rfl, ⟨m4, rfl⟩⟩) | (go_at_call 52; refine (c2.out _).mono ?_; rintro e w5 ⟨rfl, ⟨m5, rfl⟩⟩) | fail)
              go_ret
              rw [hE.out]
              exact ⟨rfl, by first | exact pw_below_drewN (hw'.out _ _) _ | exact hw'.out _ _ | (rw [← iter_drewN]; exact hw'.out _ _) | exact below_alloc (pw_below_drewN (Below.refl _ _) _) _⟩
            | true =>
              rw [hl] at c2 hnm
              have hE : nm s k1 (0 + (Utf8.decode s 0).2) (wrap64 (n + 1)) = isName s := by rw [← hn.out, hnm.out]; simp
              go_wp2_with (first | (go_at_call 51; refine (c1.out _).mono ?_; rintro e w4 ⟨rfl, ⟨m4, rfl⟩⟩) | (go_at_call 52; refine (c2.out _).mono ?_; rintro e w5 ⟨rfl, ⟨m5, rfl⟩⟩) | fail)
              go_roundg k1
              case measure => omega
              case rel => exact ⟨_, _, m + m4 + m5, rfl, by simp [World.iter, World.alloc, World.drewN, Nat.add_assoc], ⟨by have := hk.out; have := hwd.out; have := hp'.out; omega⟩, ⟨hE⟩⟩
          · have h0' : ((pos : Int) == 0) = false := by simp; omega
            have h0'' : decide (pos = 0) = false := decide_eq_false h0
            have hE : nm s k1 (pos + (Utf8.decode s pos).2) (wrap64 (n + 1)) = isName s := by rw [← hn.out, hnm.out, h0'']; simp
            go_wp2_with (first | (go_at_call 51; refine (c1.out _).mono ?_; rintro e w4 ⟨rfl, ⟨m4, rfl⟩⟩) | fail)
            go_roundg k1
            case measure => omega
            case rel => exact ⟨_, _, m + m4, rfl, by simp [World.iter, World.alloc, World.drewN, Nat.add_assoc], ⟨by have := hk.out; have := hwd.out; have := hp'.out; omega⟩, ⟨hE⟩⟩
      · have hnx : ∀ ty, (Instr.next (.pointer (some ⟨w.heap.size, 0, none⟩)) true ty).run Tryd.prog ((w.drewN m).iter s pos) = _ := fun ty => run_next_end (w.drewN m) s pos ty hp
        have hw : Below w.heap.size w ((w.drewN m).iter s pos) := below_alloc (pw_below_drewN (Below.refl _ _) _) _
        have hw' := Aside0.mk hw
        have hnm : nm s (k1 + 1) pos n = decide (0 < n ∧ n ≤ 24) := by
          show (if pos < s.size then _ else _) = _
          rw [if_neg hp]
        rw [hnm] at hn
        clear hw hnm
        by_cases h1 : 0 < n
        · have d1 : decide (0 < n) = true := decide_eq_true h1
          have hE : Aside0 (isName s = decide (n ≤ 24)) := ⟨by rw [← hn.out]; simp [h1]⟩
          go_wp2
          go_ret
          rw [hE.out]
          exact ⟨rfl, hw'.out⟩
        · have d1 : decide (0 < n) = false := decide_eq_false h1
          have hE : Aside0 (isName s = false) := ⟨by rw [← hn.out]; simp [h1]⟩
          go_wp2
          go_ret
          rw [hE.out]
          exact ⟨rfl, hw'.out⟩
end Go.Proofs.YtdhlbhkpleoicaaDoor.Exp
