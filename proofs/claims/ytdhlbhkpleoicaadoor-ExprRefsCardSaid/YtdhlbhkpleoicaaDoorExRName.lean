/- The document's names: rune by rune, by the library's decoder. -/
import Derived.Test.YtdhlbhkpleoicaaDoorExName
import Derived.Test.YtdhlbhkpleoicaaDoorExLay
import Derived.Lib.RuneCountTail
import Derived.Lib.QuoteLoop
import Derived.Shelf.Spec.BytesIndexFunc
namespace Go.Proofs.YtdhlbhkpleoicaaDoor.Exp
open Go.RowKit Go.Proofs.YtdhlbhkpleoicaaDoorW.PrintWords Go.Proofs.YtdhlbhkpleoicaaDoorW.PrintLast Go.Proofs.YtdhlbhkpleoicaaDoorW.PrintMore Go.Proofs.YtdhlbhkpleoicaaDoor.PExprEvals
set_option linter.unusedVariables false
set_option linter.unusedSimpArgs false
theorem rletter_f (r : Int) : tumbrelref03_Letter.f r = some (letterB r) := by
  unfold tumbrelref03_Letter.f letterB
  repeat' split
  all_goals simp only [Option.some.injEq]
  all_goals first | (symm; rw [decide_eq_true_eq]; omega) | (symm; rw [decide_eq_false_iff_not]; omega) | (rw [decide_eq_decide]; omega)
theorem rdigit_f (r : Int) : tumbrelref03_digit.f r = some (digitB r) := by
  unfold tumbrelref03_digit.f digitB
  repeat' split
  all_goals simp only [Option.some.injEq]
  all_goals first | (symm; rw [decide_eq_true_eq]; omega) | (symm; rw [decide_eq_false_iff_not]; omega) | (rw [decide_eq_decide]; omega)
theorem rinside_f (r : Int) : tumbrelref03_inside.f r = some (insideB r) := by
  unfold tumbrelref03_inside.f insideB
  rw [rletter_f, rdigit_f]
  cases letterB r <;> cases digitB r <;> simp
/-- A rune and its width; -1 where there is none. -/
def nxR (s : ByteArray) : Int := if (Lib.decodeGo s).1 = 65533 ∧ (Lib.decodeGo s).2 ≤ 1 then -1 else (Lib.decodeGo s).1
set_option maxHeartbeats 1000000 in
set_option maxRecDepth 100000 in
theorem next_calls (s : ByteArray) (w : World) (hT : Tabs w) : Calls Tryd.prog 55 #[.string s] w fun e w' => e = .returned (.tuple #[.int .i32 (nxR s), .int .i64 (Lib.decodeGo s).2]) ∧ Below w.heap.size w w' := by
  have hD := Aside0.mk (fun W (hb : Below w.heap.size w W) => decode_calls s W (hT.below hb))
  unfold nxR
  obtain ⟨R, hR⟩ : ∃ R, (Lib.decodeGo s).1 = R := ⟨_, rfl⟩
  obtain ⟨n, hn⟩ : ∃ n, (Lib.decodeGo s).2 = n := ⟨_, rfl⟩
  rw [hR, hn] at hD ⊢
  clear hT hR hn
  by_cases h1 : R = 65533
  · by_cases h2 : n ≤ 1
    · rw [if_pos ⟨h1, h2⟩]
      have d1 : ((R : Int) == 65533) = true := by rw [h1]; rfl
      have d2 : decide ((n : Int) ≤ 1) = true := decide_eq_true (by omega)
      clear h1 h2
      go_enter Tryd.func55, Tryd.ntmps55
      go_wp2_with (first | (go_at_call 62; (with_reducible refine (hD.out _ (by repeat (first | exact Below.refl _ _ | refine below_drew ?_ | refine pw_below_drewN ?_ _))).mono ?_); rintro e w1 ⟨rfl, hb1⟩; have hb1' := Aside0.mk hb1; clear hb1) | fail)
      go_ret2
      exact ⟨rfl, hb1'.out⟩
    · rw [if_neg (fun h => h2 h.2)]
      have d1 : ((R : Int) == 65533) = true := by rw [h1]; rfl
      have d2 : decide ((n : Int) ≤ 1) = false := decide_eq_false (by omega)
      clear h1 h2
      go_enter Tryd.func55, Tryd.ntmps55
      go_wp2_with (first | (go_at_call 62; (with_reducible refine (hD.out _ (by repeat (first | exact Below.refl _ _ | refine below_drew ?_ | refine pw_below_drewN ?_ _))).mono ?_); rintro e w1 ⟨rfl, hb1⟩; have hb1' := Aside0.mk hb1; clear hb1) | fail)
      go_ret2
      exact ⟨rfl, hb1'.out⟩
  · rw [if_neg (fun h => h1 h.1)]
    have d1 : ((R : Int) == 65533) = false := by simp; omega
    clear h1
    go_enter Tryd.func55, Tryd.ntmps55
    go_wp2_with (first | (go_at_call 62; (with_reducible refine (hD.out _ (by repeat (first | exact Below.refl _ _ | refine below_drew ?_ | refine pw_below_drewN ?_ _))).mono ?_); rintro e w1 ⟨rfl, hb1⟩; have hb1' := Aside0.mk hb1; clear hb1) | fail)
    go_ret2
    exact ⟨rfl, hb1'.out⟩
end Go.Proofs.YtdhlbhkpleoicaaDoor.Exp
namespace Go.Proofs.YtdhlbhkpleoicaaDoor.Exp
open Go.RowKit Go.Proofs.YtdhlbhkpleoicaaDoorW.PrintWords Go.Proofs.YtdhlbhkpleoicaaDoorW.PrintLast Go.Proofs.YtdhlbhkpleoicaaDoorW.PrintMore Go.Proofs.YtdhlbhkpleoicaaDoor.PExprEvals
set_option linter.unusedVariables false
set_option linter.unusedSimpArgs false
set_option maxHeartbeats 4000000
set_option maxRecDepth 100000
/-- How far what may stand in a name goes, and how many runes. -/
def rn (s : ByteArray) : Nat → Nat → Int → Nat × Int
  | 0, p, c => (p, c)
  | b + 1, p, c => if p < s.size then (if insideB ((Utf8.decode s p).1 : Int) = true then rn s b (p + (Utf8.decode s p).2) (wrap64 (c + 1)) else (p, c)) else (p, c)
theorem width_le (s : ByteArray) (p : Nat) (h : p < s.size) : p + (Utf8.decode s p).2 ≤ s.size := by
  have := Lib.decodeN_width_le (s.size - p) (s.get! p).toNat (s.get! (p + 1)).toNat (s.get! (p + 2)).toNat (s.get! (p + 3)).toNat (by omega)
  rw [← Lib.decode_at] at this
  omega
theorem nx_inside (s : ByteArray) (p : Nat) (h : p < s.size) : insideB (nxR (s.extract p s.size)) = insideB ((Utf8.decode s p).1 : Int) ∧ letterB (nxR (s.extract p s.size)) = letterB ((Utf8.decode s p).1 : Int) := by
  unfold nxR
  rw [decodeGo_tail s p h]
  split
  · rename_i h1
    rw [h1.1]
    exact ⟨by decide +kernel, by decide +kernel⟩
  · exact ⟨rfl, rfl⟩
theorem letter_inside (r : Int) (h : letterB r = true) : insideB r = true := by unfold insideB; rw [h]; rfl
theorem rn_law (s : ByteArray) (hs : s.size ≤ 1000) : ∀ (b p : Nat) (c : Int), s.size < p + b → p ≤ s.size → 0 < p → 0 < c → c ≤ p →
    nm s b p c = (decide ((rn s b p c).1 = s.size) && decide ((rn s b p c).2 ≤ 24)) ∧ (rn s b p c).1 ≤ s.size
  | 0, p, c, h1, h2, h3, h4, h5 => by omega
  | b + 1, p, c, h1, h2, h3, h4, h5 => by
    unfold nm rn
    by_cases hp : p < s.size
    · rw [if_pos hp, if_pos hp]
      have h0 : decide (p = 0) = false := decide_eq_false (by omega)
      rw [h0]
      cases hi : insideB ((Utf8.decode s p).1 : Int) with
      | false =>
        refine ⟨?_, by simp; omega⟩
        have : decide (p = s.size) = false := decide_eq_false (by omega)
        simp [this]
      | true =>
        have hw := width_pos s p hp
        have hl := width_le s p hp
        rw [show wrap64 (c + 1) = c + 1 by unfold wrap64; omega]
        have := rn_law s hs b (p + (Utf8.decode s p).2) (c + 1) (by omega) (by omega) (by omega) (by omega) (by omega)
        simpa using this
    · rw [if_neg hp, if_neg hp]
      refine ⟨?_, by simp; omega⟩
      have h6 : p = s.size := by omega
      simp [h6, h4]
theorem nx_empty (s : ByteArray) (h : s.size = 0) : letterB (nxR s) = false := by
  have : Lib.decodeGo s = (65533, 0) := by unfold Lib.decodeGo; rw [if_pos h]
  unfold nxR
  rw [this]
  decide +kernel
theorem name_law (s : ByteArray) (hs : s.size ≤ 1000) : (letterB (nxR s) && decide ((rn s (s.size + 1) 0 0).1 = s.size) && decide ((rn s (s.size + 1) 0 0).2 ≤ 24)) = isName s ∧ (rn s (s.size + 1) 0 0).1 ≤ s.size := by
  by_cases h0 : 0 < s.size
  · have hx := (nx_inside s 0 h0).2
    have he : s.extract 0 s.size = s := by simp
    rw [he] at hx
    rw [hx]
    unfold isName nm rn
    rw [if_pos h0, if_pos h0]
    cases hl : letterB ((Utf8.decode s 0).1 : Int) with
    | false =>
      refine ⟨by simp, ?_⟩
      cases hi : insideB ((Utf8.decode s 0).1 : Int) with
      | false => simp
      | true =>
        have hw := width_pos s 0 h0
        have hle := width_le s 0 h0
        have := rn_law s hs s.size (0 + (Utf8.decode s 0).2) 1 (by omega) (by omega) (by omega) (by omega) (by omega)
        have e1 : wrap64 (0 + 1) = 1 := by decide +kernel
        rw [e1]
        simpa using this.2
    | true =>
      have hi := letter_inside _ hl
      rw [hi]
      have hw := width_pos s 0 h0
      have hle := width_le s 0 h0
      have := rn_law s hs s.size (0 + (Utf8.decode s 0).2) 1 (by omega) (by omega) (by omega) (by omega) (by omega)
      have e1 : wrap64 (0 + 1) = 1 := by decide +kernel
      rw [e1]
      simp only [if_true, Bool.true_and, decide_true, Bool.not_true, Bool.and_false, Bool.or_false]
      refine ⟨?_, this.2⟩
      rw [this.1]
      simp
  · have hz : s.size = 0 := by omega
    rw [nx_empty s hz]
    unfold isName nm rn
    rw [if_neg h0, if_neg h0]
    simp
theorem run_calls (s : ByteArray) (hs : s.size ≤ 1000) (w : World) (hT : Tabs w) : Calls Tryd.prog 56 #[.string s] w fun e w' => e = .returned (.tuple #[.int .i64 ((rn s (s.size + 1) 0 0).1 : Nat), .int .i64 (rn s (s.size + 1) 0 0).2]) ∧ Below w.heap.size w w' := by
  have hN := Aside0.mk (fun t W (hb : Below w.heap.size w W) => next_calls t W (hT.below hb))
  clear hT
  go_enter Tryd.func56, Tryd.ntmps56
  go_wp2_with fail
  go_loopg [4, 5] (s.size + 1) (fun kq v4 v5 w' => ∃ (p : Nat) (c : Int), v4 = .int .i64 (p : Int) ∧ v5 = .int .i64 c ∧ Aside0 (s.size < p + kq ∧ 1 ≤ kq) ∧ Aside0 (p ≤ s.size) ∧ Aside0 (rn s kq p c = rn s (s.size + 1) 0 0) ∧ Aside0 (Below w.heap.size w w'))
  case atStart => exact ⟨0, 0, rfl, rfl, ⟨by omega⟩, ⟨by omega⟩, ⟨rfl⟩, ⟨by repeat (first | exact Below.refl _ _ | refine pw_below_drewN ?_ _ | refine below_drew ?_)⟩⟩
  case round =>
    obtain ⟨p, c, rfl, rfl, hk, hp, hx, hB⟩ := hrel
    cases gk with
    | zero => exact absurd hk.out.2 (by omega)
    | succ k1 =>
      by_cases hlt : p < s.size
      · have hd : decide ((p : Int) < (s.size : Int)) = true := decide_eq_true (by omega)
        have hd' : decide (p < s.size) = true := decide_eq_true hlt
        have p1 : 0 ≤ (p : Int) := by omega
        have q1 : (p : Int) ≤ (s.size : Int) := by omega
        have hin := (nx_inside s p hlt).1
        have hwid : (Lib.decodeGo (s.extract p s.size)).2 = (Utf8.decode s p).2 := by rw [decodeGo_tail s p hlt]
        have hw1 := width_pos s p hlt
        have hw2 := width_le s p hlt
        have hrn : rn s (k1 + 1) p c = if insideB (nxR (s.extract p s.size)) = true then rn s k1 (p + (Lib.decodeGo (s.extract p s.size)).2) (wrap64 (c + 1)) else (p, c) := by
          rw [hin, hwid]
          show (if p < s.size then _ else _) = _
          rw [if_pos hlt]
        rw [hx.out] at hrn
        rw [← hwid] at hw1 hw2
        have hNN := Aside0.mk (hN.out (s.extract p s.size))
        obtain ⟨r, hr⟩ : ∃ r, nxR (s.extract p s.size) = r := ⟨_, rfl⟩
        obtain ⟨n, hn⟩ : ∃ n, (Lib.decodeGo (s.extract p s.size)).2 = n := ⟨_, rfl⟩
        rw [hr, hn] at hNN
        rw [hr, hn] at hrn
        rw [hn] at hw1 hw2
        have c1 := Aside0.mk (fun w => tumbrelref03_inside.calls r (insideB r) w (rinside_f r))
        have hrn' := Aside0.mk hrn
        have hw1' := Aside0.mk hw1
        have hw2' := Aside0.mk hw2
        have hlt' := Aside0.mk hlt
        clear hin hwid hrn hr hn hw1 hw2
        cases hi : insideB r with
        | false =>
          rw [hi] at c1 hrn'
          have e0 := hrn'.out
          rw [if_neg (by decide)] at e0
          have e1 := Aside0.mk e0
          clear e0
          go_wp2_with (first
            | (go_at_call 55; (with_reducible refine (hNN.out _ (by repeat (first | exact hB.out | refine below_drew ?_ | refine pw_below_drewN ?_ _))).mono ?_); rintro e w1 ⟨rfl, hb1⟩; have hb1' := Aside0.mk (below_step hB.out hb1); clear hb1)
            | (go_at_call 63; refine (c1.out _).mono ?_; rintro e w4 ⟨rfl, ⟨m4, hm4⟩⟩; have hb4 : Aside0 (Below w.heap.size w w4) := ⟨by rw [hm4]; exact pw_below_drewN hb1'.out _⟩; clear hm4)
            | fail)
          go_ret2
          exact ⟨by rw [e1.out]; rfl, hb4.out⟩
        | true =>
          rw [hi] at c1 hrn'
          have e0 := hrn'.out
          rw [if_pos rfl] at e0
          have e1 := Aside0.mk e0
          clear e0
          go_wp2_with (first
            | (go_at_call 55; (with_reducible refine (hNN.out _ (by repeat (first | exact hB.out | refine below_drew ?_ | refine pw_below_drewN ?_ _))).mono ?_); rintro e w1 ⟨rfl, hb1⟩; have hb1' := Aside0.mk (below_step hB.out hb1); clear hb1)
            | (go_at_call 63; refine (c1.out _).mono ?_; rintro e w4 ⟨rfl, ⟨m4, hm4⟩⟩; have hb4 : Aside0 (Below w.heap.size w w4) := ⟨by rw [hm4]; exact pw_below_drewN hb1'.out _⟩; clear hm4)
            | fail)
          go_roundg k1
          case measure => have := hk.out; omega
          case rel =>
            refine ⟨p + n, wrap64 (c + 1), ?_, rfl, ⟨by have := hk.out; have := hw1'.out; have := hlt'.out; have := hw2'.out; omega⟩, ⟨hw2'.out⟩, ⟨e1.out.symm⟩, hb4⟩
            have := hw2'.out
            rw [show wrap64 ((p : Int) + (n : Int)) = ((p + n : Nat) : Int) by unfold wrap64; omega]
      · have hd : decide ((p : Int) < (s.size : Int)) = false := decide_eq_false (by omega)
        have hd' : decide (p < s.size) = false := decide_eq_false hlt
        have hrn : rn s (k1 + 1) p c = (p, c) := by
          show (if p < s.size then _ else _) = _
          rw [if_neg hlt]
        rw [hx.out] at hrn
        go_wp2
        go_ret2
        exact ⟨by rw [hrn]; rfl, hB.out⟩
theorem rName_calls (s : ByteArray) (hs : s.size ≤ 1000) (w : World) (hT : Tabs w) : Calls Tryd.prog 42 #[.string s] w fun e w' => e = .returned (.bool (isName s)) ∧ Below w.heap.size w w' := by
  have hN := Aside0.mk (fun W (hb : Below w.heap.size w W) => next_calls s W (hT.below hb))
  have hR := Aside0.mk (fun W (hb : Below w.heap.size w W) => run_calls s hs W (hT.below hb))
  obtain ⟨hlaw, hle⟩ := name_law s hs
  obtain ⟨r, hr⟩ : ∃ r, nxR s = r := ⟨_, rfl⟩
  obtain ⟨⟨p, c⟩, hp⟩ : ∃ q, rn s (s.size + 1) 0 0 = q := ⟨_, rfl⟩
  rw [hr] at hN hlaw
  rw [hp] at hR hlaw hle
  have c2 := Aside0.mk (fun w => tumbrelref03_Letter.calls r (letterB r) w (rletter_f r))
  simp only [] at hR hlaw hle
  have hlaw' := Aside0.mk hlaw
  have dp : ((p : Int) == (s.size : Int)) = decide (p = s.size) := by
    by_cases h : p = s.size
    · rw [decide_eq_true h, h]; simp
    · rw [decide_eq_false h]; simp; omega
  clear hT hlaw hr hp
  obtain ⟨lb, hlb⟩ : ∃ b, letterB r = b := ⟨_, rfl⟩
  rw [hlb] at c2 hlaw'
  obtain ⟨eb, heb⟩ : ∃ b, decide (p = s.size) = b := ⟨_, rfl⟩
  rw [heb] at dp hlaw'
  clear hlb heb hle
  cases lb with
  | false =>
    go_enter Tryd.func42, Tryd.ntmps42
    go_wp2_with (first
      | (go_at_call 55; (with_reducible refine (hN.out _ (by repeat (first | exact Below.refl _ _ | refine below_drew ?_ | refine pw_below_drewN ?_ _))).mono ?_); rintro e w1 ⟨rfl, hb1⟩; have hb1' := Aside0.mk hb1; clear hb1)
      | (go_at_call 56; (with_reducible refine (hR.out _ hb1'.out).mono ?_); rintro e w2 ⟨rfl, hb2⟩; have hb2' := Aside0.mk (below_step hb1'.out hb2); clear hb2)
      | (go_at_call 57; refine (c2.out _).mono ?_; rintro e w4 ⟨rfl, ⟨m4, hm4⟩⟩; have hb4 : Aside0 (Below w.heap.size w w4) := ⟨by rw [hm4]; exact pw_below_drewN hb2'.out _⟩; clear hm4)
      | fail)
    go_ret
    exact ⟨by rw [← hlaw'.out]; rfl, hb4.out⟩
  | true =>
    cases eb with
    | false =>
      go_enter Tryd.func42, Tryd.ntmps42
      go_wp2_with (first
        | (go_at_call 55; (with_reducible refine (hN.out _ (by repeat (first | exact Below.refl _ _ | refine below_drew ?_ | refine pw_below_drewN ?_ _))).mono ?_); rintro e w1 ⟨rfl, hb1⟩; have hb1' := Aside0.mk hb1; clear hb1)
        | (go_at_call 56; (with_reducible refine (hR.out _ hb1'.out).mono ?_); rintro e w2 ⟨rfl, hb2⟩; have hb2' := Aside0.mk (below_step hb1'.out hb2); clear hb2)
        | (go_at_call 57; refine (c2.out _).mono ?_; rintro e w4 ⟨rfl, ⟨m4, hm4⟩⟩; have hb4 : Aside0 (Below w.heap.size w w4) := ⟨by rw [hm4]; exact pw_below_drewN hb2'.out _⟩; clear hm4)
        | fail)
      go_ret
      exact ⟨by rw [← hlaw'.out]; rfl, hb4.out⟩
    | true =>
      go_enter Tryd.func42, Tryd.ntmps42
      go_wp2_with (first
        | (go_at_call 55; (with_reducible refine (hN.out _ (by repeat (first | exact Below.refl _ _ | refine below_drew ?_ | refine pw_below_drewN ?_ _))).mono ?_); rintro e w1 ⟨rfl, hb1⟩; have hb1' := Aside0.mk hb1; clear hb1)
        | (go_at_call 56; (with_reducible refine (hR.out _ hb1'.out).mono ?_); rintro e w2 ⟨rfl, hb2⟩; have hb2' := Aside0.mk (below_step hb1'.out hb2); clear hb2)
        | (go_at_call 57; refine (c2.out _).mono ?_; rintro e w4 ⟨rfl, ⟨m4, hm4⟩⟩; have hb4 : Aside0 (Below w.heap.size w w4) := ⟨by rw [hm4]; exact pw_below_drewN hb2'.out _⟩; clear hm4)
        | fail)
      go_ret
      exact ⟨by rw [← hlaw'.out]; rfl, hb4.out⟩
end Go.Proofs.YtdhlbhkpleoicaaDoor.Exp
