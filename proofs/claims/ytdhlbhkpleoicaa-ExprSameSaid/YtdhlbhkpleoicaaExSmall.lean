/- Sizes, and awake. -/
import Derived.Test.YtdhlbhkpleoicaaExTheirs
namespace Go.Proofs.Ytdhlbhkpleoicaa.Exp
open Go.RowKit Go.Proofs.YtdhlbhkpleoicaaW.PrintWords Go.Proofs.YtdhlbhkpleoicaaW.PrintLast Go.Proofs.YtdhlbhkpleoicaaW.PrintMore Go.Proofs.Ytdhlbhkpleoicaa.PExprSame
open Frm
set_option linter.unusedVariables false
set_option linter.unusedSimpArgs false
/-- Rows that are no longer than a row can be, down to a depth. -/
def okN : Nat → S24 → Prop
  | 0, _ => True
  | n + 1, x => x.f3.length ≤ 9223372036854775807 ∧ ∀ y ∈ x.f3, okN n y
theorem mem_at {l : List S24} {y : S24} (h : y ∈ l) : ∃ i : Nat, i < l.length ∧ rd_T24 l (i : Int) = y := by
  obtain ⟨i, hi⟩ := List.getElem?_of_mem h
  have hl := (List.getElem?_eq_some_iff.1 hi).1
  exact ⟨i, hl, by simp [rd_T24, List.getD_eq_getElem?_getD, hi]⟩
theorem okN_C : ∀ (n : Nat) (x : S24) (w : World) (A : Option Addr), Kd.C k24 w A x.f3.length x.f3 → okN n x
  | 0, _, _, _, _ => trivial
  | n + 1, x, w, A, hC => by
    refine ⟨?_, fun y hy => ?_⟩
    · have := hC.2.1
      omega
    · obtain ⟨i, hi, hr⟩ := mem_at hy
      obtain ⟨ad, A3, c3, _, _, _, _, _, _, hC3⟩ := at_T24 hC (i : Int) (by omega) (by omega)
      rw [hr] at hC3
      exact okN_C n y w A3 hC3
theorem small_loop (x : S24) (n : Nat) (hn : n ≤ 1000) (hlen : x.f3.length ≤ 9223372036854775807)
    (Q : ∀ y ∈ x.f3, ∀ depth left : Int, 0 ≤ left → left ≤ n → ∃ (r : Int) (K : Nat), r ≤ left - 1 ∧ ∀ k, K ≤ k → tumbrelref04_small.f k y.f0 y.f1 y.f2 y.f3 depth left = some r) :
    ∀ (d i : Nat) (depth left : Int), x.f3.length ≤ i + d → i ≤ x.f3.length → 0 ≤ left → left ≤ n → ∃ (r : Int) (K : Nat), r ≤ left ∧ ∀ k, K ≤ k → tumbrelref04_small.l0 k depth left (x.f3.length : Int) (i : Int) x.f0 x.f1 x.f2 x.f3 = some r
  | d, i, depth, left, h1, h2, h3, h4 => by
    by_cases hlt : i < x.f3.length
    · cases d with
      | zero => omega
      | succ d =>
        have hrd : rd_T24 x.f3 (i : Int) = x.f3[i] := by simp [rd_T24, List.getD_eq_getElem?_getD, hlt]
        obtain ⟨t, K, ht, hK⟩ := Q x.f3[i] (List.getElem_mem hlt) (wrap64 (depth + 1)) left h3 h4
        by_cases hneg : t < 0
        · refine ⟨-1, K + 1, by omega, fun k hk => ?_⟩
          obtain ⟨k, rfl⟩ : ∃ m, k = m + 1 := ⟨k - 1, by omega⟩
          simp only [tumbrelref04_small.l0]
          rw [if_pos (by omega), if_pos (by omega), if_pos (by omega), hrd, hK k (by omega), Option.bind_some, if_pos hneg]
        · obtain ⟨r, K2, hr, hK2⟩ := small_loop x n hn hlen Q d (i + 1) depth t (by omega) (by omega) (by omega) (by omega)
          refine ⟨r, K + K2 + 1, by omega, fun k hk => ?_⟩
          obtain ⟨k, rfl⟩ : ∃ m, k = m + 1 := ⟨k - 1, by omega⟩
          simp only [tumbrelref04_small.l0]
          rw [if_pos (by omega), if_pos (by omega), if_pos (by omega), hrd, hK k (by omega), Option.bind_some, if_neg hneg, show wrap64 ((i : Int) + 1) = ((i + 1 : Nat) : Int) from by unfold wrap64; omega]
          exact hK2 k (by omega)
    · refine ⟨left, 1, by omega, fun k hk => ?_⟩
      obtain ⟨k, rfl⟩ : ∃ m, k = m + 1 := ⟨k - 1, by omega⟩
      simp only [tumbrelref04_small.l0]
      rw [if_neg (by omega)]
termination_by d => d
theorem small_tot : ∀ (n : Nat), n ≤ 1000 → ∀ (x : S24), okN n x → ∀ depth left : Int, 0 ≤ left → left ≤ n → ∃ (r : Int) (K : Nat), r ≤ left - 1 ∧ ∀ k, K ≤ k → tumbrelref04_small.f k x.f0 x.f1 x.f2 x.f3 depth left = some r
  | n, hn, x, hx, depth, left, h3, h4 => by
    have hw : wrap64 (left - 1) = left - 1 := by unfold wrap64; omega
    by_cases hneg : left - 1 < 0
    · refine ⟨-1, 3, by omega, fun k hk => ?_⟩
      obtain ⟨k, rfl⟩ : ∃ m, k = m + 2 := ⟨k - 2, by omega⟩
      simp only [tumbrelref04_small.f, tumbrelref04_small.j0, hw, if_pos hneg]
      split <;> simp
    · cases n with
      | zero => omega
      | succ n =>
        obtain ⟨hl, hy⟩ := hx
        obtain ⟨r, K, hr, hK⟩ := small_loop x n (by omega) hl (fun y hm depth left h3 h4 => small_tot n (by omega) y (hy y hm) depth left h3 h4) x.f3.length 0 depth (left - 1) (by omega) (by omega) (by omega) (by omega)
        by_cases hd : depth > 60
        · refine ⟨-1, 3, by omega, fun k hk => ?_⟩
          obtain ⟨k, rfl⟩ : ∃ m, k = m + 2 := ⟨k - 2, by omega⟩
          simp only [tumbrelref04_small.f, tumbrelref04_small.j0, hw, if_pos hd]
          simp
        · by_cases hs : (x.f2.size : Int) > 1000
          · refine ⟨-1, 3, by omega, fun k hk => ?_⟩
            obtain ⟨k, rfl⟩ : ∃ m, k = m + 2 := ⟨k - 2, by omega⟩
            simp only [tumbrelref04_small.f, tumbrelref04_small.j0, hw, if_neg hd, if_neg hneg, decide_eq_true hs]
            simp
          · refine ⟨r, K + 2, by omega, fun k hk => ?_⟩
            obtain ⟨k, rfl⟩ : ∃ m, k = m + 2 := ⟨k - 2, by omega⟩
            simp only [tumbrelref04_small.f, tumbrelref04_small.j0, hw, if_neg hd, if_neg hneg, decide_eq_false hs]
            rw [if_neg (by decide)]
            exact hK k (by omega)
/-- Small answers. -/
theorem Small_calls (x : S24) (hx : okN 200 x) : ∃ b : Bool, ∀ (A : Option Addr) (c : Nat) (w : World), Kd.C k24 w A x.f3.length x.f3 → x.f3.length ≤ c →
    Calls Try.prog 7 #[.agg #[.int .i64 x.f0, .int .i64 x.f1, .string x.f2, .slice A x.f3.length c]] w fun e w' => e = .returned (.bool b) ∧ Below w.heap.size w w' := by
  obtain ⟨r, K, _, hK⟩ := small_tot 200 (by omega) x hx 0 200 (by omega) (by omega)
  refine ⟨decide (r ≥ 0), fun A c w hC hc => ?_⟩
  exact tumbrelref04_Small.calls K x.f0 x.f1 x.f2 A c x.f3 (decide (r ≥ 0)) w hC hc (by unfold tumbrelref04_Small.f; rw [hK K (Nat.le_refl _)]; rfl)
theorem awake_ev : evl [] (.bin sPlus (.lit 2) (.lit 3)) = (5, 0) := by decide +kernel
set_option maxHeartbeats 1000000 in
set_option maxRecDepth 100000 in
theorem awake_calls (w : World) : Calls Try.prog 6 #[] w fun e w' => e = .returned (.bool true) ∧ Below w.heap.size w w' := by
  have hE : Aside0 (∀ w, Calls Try.prog 11 #[.iface 33 (.agg #[.string ⟨#[43]⟩, .iface 47 (.agg #[.int .i64 2]), .iface 47 (.agg #[.int .i64 3])]), .slice none 0 0] w fun e w' => e = .returned (.tuple #[.int .i64 5, .int .i64 0]) ∧ Below w.heap.size w w') := ⟨fun w => by
    have h := Eval_calls (.bin sPlus (.lit 2) (.lit 3)) [] (by simp) none 0 w ⟨rfl, by decide, fun h0 => absurd h0 (by simp)⟩ (by simp)
    rw [awake_ev] at h
    exact h⟩
  go_enter Try.func6, Try.ntmps6
  go_wp2_with (first | (go_at_call 11; (with_reducible refine (hE.out _).mono ?_); rintro e w1 ⟨rfl, hb1⟩; have hb1' := Aside0.mk hb1; clear hb1) | fail)
  go_ret
  exact ⟨rfl, hb1'.out⟩
def fewL : List S50 → Nat → Bool
  | [], _ => true
  | x :: r, i => if 200 ≤ i then false else if 1000 < x.f0.size then false else fewL r (i + 1)
theorem fewL_drop (l : List S50) (i : Nat) (h : i < l.length) : fewL (l.drop i) i = if 200 ≤ i then false else if 1000 < (rd_T50 l (i : Int)).f0.size then false else fewL (l.drop (i + 1)) (i + 1) := by
  rw [List.drop_eq_getElem_cons h]
  have : rd_T50 l (i : Int) = l[i] := by simp [rd_T50, List.getD_eq_getElem?_getD, h]
  rw [this]
  rfl
set_option maxHeartbeats 1000000 in
set_option maxRecDepth 100000 in
theorem few_calls (L : List S50) (A : Option Addr) (c : Nat) (w : World) (hC : Kd.C k50 w A L.length L) :
    Calls Try.prog 8 #[.slice A L.length c] w fun e w' => e = .returned (.bool (fewL L 0)) ∧ Drawn0 w w' := by
  have hC' := Aside0.mk hC
  clear hC
  have hl : L.length ≤ 9223372036854775807 := hC'.out.2.1
  go_enter Try.func8, Try.ntmps8
  go_wp2_with fail
  go_loopg [6] (L.length + 1) (fun kq v6 w' => ∃ (i m : Nat), v6 = .int .i64 (i : Int) ∧ Aside0 (kq + i = L.length + 1) ∧ Aside0 (i ≤ L.length) ∧ Aside0 (fewL (L.drop i) i = fewL L 0) ∧ w' = w.drewN m)
  case atStart => exact ⟨0, 0, rfl, ⟨by omega⟩, ⟨by omega⟩, ⟨rfl⟩, rfl⟩
  case round =>
    obtain ⟨i, m, rfl, hk, hi, hx, rfl⟩ := hrel
    by_cases hlt : i < L.length
    · have hd : decide ((i : Int) < (L.length : Int)) = true := decide_eq_true (by omega)
      have hd' : decide (i < L.length) = true := decide_eq_true hlt
      cases gk with
      | zero => exact absurd hk.out (by omega)
      | succ k1 =>
        have hlt' := Aside0.mk hlt
        have p1 : 0 ≤ (i : Int) := by omega
        have q1 : (i : Int) < (L.length : Int) := by omega
        obtain ⟨ad, e1, y0, y1⟩ := at_T50 hC'.out (i : Int) p1 q1
        cases e1
        rw [show ((i : Int)).toNat = i from by simp] at y0 y1
        have hst := fewL_drop L i hlt
        rw [hx.out] at hst
        obtain ⟨⟨xs, xn⟩, hxx⟩ : ∃ x, rd_T50 L (i : Int) = x := ⟨_, rfl⟩
        rw [hxx] at hst y0 y1
        simp only [] at hst y0 y1
        have hst' := Aside0.mk hst
        clear hst hxx
        by_cases h0 : 200 ≤ i
        · have d0 : decide ((200 : Int) ≤ (i : Int)) = true := decide_eq_true (by omega)
          have d0' : decide (200 ≤ i) = true := decide_eq_true h0
          have e1 : Aside0 (fewL L 0 = false) := ⟨by rw [hst'.out, if_pos h0]⟩
          go_wp2
          go_ret
          exact ⟨by rw [e1.out]; rfl, ⟨_, rfl⟩⟩
        · have d0 : decide ((200 : Int) ≤ (i : Int)) = false := decide_eq_false (by omega)
          have d0' : decide (200 ≤ i) = false := decide_eq_false h0
          by_cases h1 : 1000 < xs.size
          · have d1 : decide ((1000 : Int) < (xs.size : Int)) = true := decide_eq_true (by omega)
            have d1' : decide (1000 < xs.size) = true := decide_eq_true h1
            have e1 : Aside0 (fewL L 0 = false) := ⟨by rw [hst'.out, if_neg h0, if_pos h1]⟩
            go_wp2
            go_ret
            exact ⟨by rw [e1.out]; rfl, ⟨_, rfl⟩⟩
          · have d1 : decide ((1000 : Int) < (xs.size : Int)) = false := decide_eq_false (by omega)
            have d1' : decide (1000 < xs.size) = false := decide_eq_false h1
            have e1 : Aside0 (fewL (L.drop (i + 1)) (i + 1) = fewL L 0) := ⟨by rw [hst'.out, if_neg h0, if_neg h1]⟩
            go_wp2
            go_roundg k1
            case measure => have := hk.out; omega
            case rel => exact ⟨i + 1, _, by go_num, ⟨by have := hk.out; omega⟩, ⟨by have := hlt'.out; omega⟩, e1, rfl⟩
    · have hd : decide ((i : Int) < (L.length : Int)) = false := decide_eq_false (by omega)
      have hd' : decide (i < L.length) = false := decide_eq_false hlt
      obtain rfl : i = L.length := by have := hi.out; omega
      have e1 : Aside0 (fewL L 0 = true) := ⟨by rw [← hx.out, List.drop_length]; rfl⟩
      go_wp2
      go_ret
      exact ⟨by rw [e1.out]; rfl, ⟨_, rfl⟩⟩
end Go.Proofs.Ytdhlbhkpleoicaa.Exp
