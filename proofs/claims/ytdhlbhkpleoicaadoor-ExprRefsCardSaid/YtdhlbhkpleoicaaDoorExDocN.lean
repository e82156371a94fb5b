/- Sizes, and awake. -/
import Derived.Test.YtdhlbhkpleoicaaDoorExTheirs
namespace Go.Proofs.YtdhlbhkpleoicaaDoor.Exp
open Go.RowKit Go.Proofs.YtdhlbhkpleoicaaDoorW.PrintWords Go.Proofs.YtdhlbhkpleoicaaDoorW.PrintLast Go.Proofs.YtdhlbhkpleoicaaDoorW.PrintMore Go.Proofs.YtdhlbhkpleoicaaDoor.PExprEvals
open Frm
set_option linter.unusedVariables false
set_option linter.unusedSimpArgs false
/-- Rows that are no longer than a row can be, down to a depth. -/
def okN : Nat → S24 → Prop
  | 0, _ => True
  | n + 1, x => x.f3.length ≤ 9223372036854775807 ∧ ∀ y ∈ x.f3, okN n y
theorem mem_at {l : List S24} {y : S24} (h : y ∈ l) : ∃ i : Nat, i < l.length ∧ rd_T24 l (i : Int) = y := by
  obtain ⟨i, hi⟩ := List.getElem?_of_mem h
  have hl := (List.getElem?_eq_some_iff.1 hi).1
  exact ⟨i, hl, by simp [rd_T24, List.getD_eq_getElem?_getD, hi]⟩
theorem okN_C : ∀ (n : Nat) (x : S24) (w : World) (A : Option Addr), Kd.C k24 w A x.f3.length x.f3 → okN n x
  | 0, _, _, _, _ => trivial
  | n + 1, x, w, A, hC => by
    refine ⟨?_, fun y hy => ?_⟩
    · have := hC.2.1
      omega
    · obtain ⟨i, hi, hr⟩ := mem_at hy
      obtain ⟨ad, A3, c3, _, _, _, _, _, _, hC3⟩ := at_T24 hC (i : Int) (by omega) (by omega)
      rw [hr] at hC3
      exact okN_C n y w A3 hC3
theorem awake_ev : evl [] (.bin sPlus (.lit 2) (.lit 3)) = (5, 0) := by decide +kernel
set_option maxHeartbeats 1000000 in
set_option maxRecDepth 100000 in
theorem awake_calls (w : World) : Calls Tryd.prog 6 #[] w fun e w' => e = .returned (.bool true) ∧ Below w.heap.size w w' := by
  have hE : Aside0 (∀ w, Calls Tryd.prog 9 #[.iface 50 (.agg #[.string ⟨#[43]⟩, .iface 48 (.agg #[.int .i64 2]), .iface 48 (.agg #[.int .i64 3])]), .slice none 0 0] w fun e w' => e = .returned (.tuple #[.int .i64 5, .int .i64 0]) ∧ Below w.heap.size w w') := ⟨fun w => by
    have h := Eval_calls (.bin sPlus (.lit 2) (.lit 3)) [] (by simp) none 0 w ⟨rfl, by decide, fun h0 => absurd h0 (by simp)⟩ (by simp)
    rw [awake_ev] at h
    exact h⟩
  go_enter Tryd.func6, Tryd.ntmps6
  go_wp2_with (first | (go_at_call 9; (with_reducible refine (hE.out _).mono ?_); rintro e w1 ⟨rfl, hb1⟩; have hb1' := Aside0.mk hb1; clear hb1) | fail)
  go_ret
  exact ⟨rfl, hb1'.out⟩
def fewL : List S46 → Nat → Bool
  | [], _ => true
  | x :: r, i => if 200 ≤ i then false else if 1000 < x.f0.size then false else fewL r (i + 1)
theorem fewL_drop (l : List S46) (i : Nat) (h : i < l.length) : fewL (l.drop i) i = if 200 ≤ i then false else if 1000 < (rd_T46 l (i : Int)).f0.size then false else fewL (l.drop (i + 1)) (i + 1) := by
  rw [List.drop_eq_getElem_cons h]
  have : rd_T46 l (i : Int) = l[i] := by simp [rd_T46, List.getD_eq_getElem?_getD, h]
  rw [this]
  rfl
set_option maxHeartbeats 1000000 in
set_option maxRecDepth 100000 in
theorem few_calls (L : List S46) (A : Option Addr) (c : Nat) (w : World) (hC : Kd.C k46 w A L.length L) :
    Calls Tryd.prog 8 #[.slice A L.length c] w fun e w' => e = .returned (.bool (fewL L 0)) ∧ Drawn0 w w' := by
  have hC' := Aside0.mk hC
  clear hC
  have hl : L.length ≤ 9223372036854775807 := hC'.out.2.1
  go_enter Tryd.func8, Tryd.ntmps8
  go_wp2_with fail
  go_loopg [6] (L.length + 1) (fun kq v6 w' => ∃ (i m : Nat), v6 = .int .i64 (i : Int) ∧ Aside0 (kq + i = L.length + 1) ∧ Aside0 (i ≤ L.length) ∧ Aside0 (fewL (L.drop i) i = fewL L 0) ∧ w' = w.drewN m)
  case atStart => exact ⟨0, 0, rfl, ⟨by omega⟩, ⟨by omega⟩, ⟨rfl⟩, rfl⟩
  case round =>
    obtain ⟨i, m, rfl, hk, hi, hx, rfl⟩ := hrel
    by_cases hlt : i < L.length
    · have hd : decide ((i : Int) < (L.length : Int)) = true := decide_eq_true (by omega)
      have hd' : decide (i < L.length) = true := decide_eq_true hlt
      cases gk with
      | zero => exact absurd hk.out (by omega)
      | succ k1 =>
        have hlt' := Aside0.mk hlt
        have p1 : 0 ≤ (i : Int) := by omega
        have q1 : (i : Int) < (L.length : Int) := by omega
        obtain ⟨ad, e1, y0, y1⟩ := at_T46 hC'.out (i : Int) p1 q1
        cases e1
        rw [show ((i : Int)).toNat = i from by simp] at y0 y1
        have hst := fewL_drop L i hlt
        rw [hx.out] at hst
        obtain ⟨⟨xs, xn⟩, hxx⟩ : ∃ x, rd_T46 L (i : Int) = x := ⟨_, rfl⟩
        rw [hxx] at hst y0 y1
        simp only [] at hst y0 y1
        have hst' := Aside0.mk hst
        clear hst hxx
        by_cases h0 : 200 ≤ i
        · have d0 : decide ((200 : Int) ≤ (i : Int)) = true := decide_eq_true (by omega)
          have d0' : decide (200 ≤ i) = true := decide_eq_true h0
          have e1 : Aside0 (fewL L 0 = false) := ⟨by rw [hst'.out, if_pos h0]⟩
          go_wp2
          go_ret
          exact ⟨by rw [e1.out]; rfl, ⟨_, rfl⟩⟩
        · have d0 : decide ((200 : Int) ≤ (i : Int)) = false := decide_eq_false (by omega)
          have d0' : decide (200 ≤ i) = false := decide_eq_false h0
          by_cases h1 : 1000 < xs.size
          · have d1 : decide ((1000 : Int) < (xs.size : Int)) = true := decide_eq_true (by omega)
            have d1' : decide (1000 < xs.size) = true := decide_eq_true h1
            have e1 : Aside0 (fewL L 0 = false) := ⟨by rw [hst'.out, if_neg h0, if_pos h1]⟩
            go_wp2
            go_ret
            exact ⟨by rw [e1.out]; rfl, ⟨_, rfl⟩⟩
          · have d1 : decide ((1000 : Int) < (xs.size : Int)) = false := decide_eq_false (by omega)
            have d1' : decide (1000 < xs.size) = false := decide_eq_false h1
            have e1 : Aside0 (fewL (L.drop (i + 1)) (i + 1) = fewL L 0) := ⟨by rw [hst'.out, if_neg h0, if_neg h1]⟩
            go_wp2
            go_roundg k1
            case measure => have := hk.out; omega
            case rel => exact ⟨i + 1, _, by go_num, ⟨by have := hk.out; omega⟩, ⟨by have := hlt'.out; omega⟩, e1, rfl⟩
    · have hd : decide ((i : Int) < (L.length : Int)) = false := decide_eq_false (by omega)
      have hd' : decide (i < L.length) = false := decide_eq_false hlt
      obtain rfl : i = L.length := by have := hi.out; omega
      have e1 : Aside0 (fewL L 0 = true) := ⟨by rw [← hx.out, List.drop_length]; rfl⟩
      go_wp2
      go_ret
      exact ⟨by rw [e1.out]; rfl, ⟨_, rfl⟩⟩
end Go.Proofs.YtdhlbhkpleoicaaDoor.Exp
namespace Go.Proofs.YtdhlbhkpleoicaaDoor.Exp
open Go.RowKit Go.Proofs.YtdhlbhkpleoicaaDoorW.PrintWords Go.Proofs.YtdhlbhkpleoicaaDoorW.PrintLast Go.Proofs.YtdhlbhkpleoicaaDoorW.PrintMore Go.Proofs.YtdhlbhkpleoicaaDoor.PExprEvals
open Frm
set_option linter.unusedVariables false
set_option linter.unusedSimpArgs false
def eB : ByteArray := ⟨#[]⟩
/-- A clean node. -/
def toN : Ex → S24
  | .none => ⟨0, 0, eB, []⟩
  | .lit n => ⟨1, n, eB, []⟩
  | .ref s => ⟨2, 0, s, []⟩
  | .not x => ⟨3, 0, eB, [toN x]⟩
  | .neg x => ⟨4, 0, eB, [toN x]⟩
  | .bin op l r => ⟨5, 0, op, [toN l, toN r]⟩
def CleanT (x : S24) (t : S24) : Prop := ∃ K, ∀ k, K ≤ k → tumbrelref04_Clean.f k x.f0 x.f1 x.f2 x.f3 = some (t.f0, t.f1, t.f2, t.f3)
theorem l0_step (x : S24) (ih : ∀ y ∈ x.f3, CleanT y (toN (theirs y))) (n i : Nat) (h : i < n) (hn : n ≤ 2) (o0 o1 : Int) (o2 : ByteArray) (acc : List S24) (ha : acc.length ≤ 10) :
    ∃ K, ∀ k, K ≤ k → tumbrelref04_Clean.l0 (k + 1) (n : Int) (i : Int) x.f0 x.f1 x.f2 x.f3 o0 o1 o2 acc = tumbrelref04_Clean.l0 k (n : Int) ((i + 1 : Nat) : Int) x.f0 x.f1 x.f2 x.f3 o0 o1 o2 (acc ++ [toN (part x i)]) := by
  have hw : wrap64 ((i : Int) + 1) = ((i + 1 : Nat) : Int) := by unfold wrap64; omega
  by_cases hlt : i < x.f3.length
  · have hrd : rd_T24 x.f3 (i : Int) = x.f3[i] := by simp [rd_T24, List.getD_eq_getElem?_getD, hlt]
    have hp : part x i = theirs x.f3[i] := by unfold part; rw [dif_pos hlt]
    obtain ⟨K, hK⟩ := ih _ (List.getElem_mem hlt)
    refine ⟨K, fun k hk => ?_⟩
    rw [tumbrelref04_Clean.l0, if_pos (by omega), if_pos (by omega), if_pos (by omega), hrd, hK k hk, Option.bind_some, if_pos (by omega), hw, hp]
    generalize toN (theirs x.f3[i]) = t
    cases t
    rfl
  · have hp : part x i = .none := by unfold part; rw [dif_neg hlt]
    refine ⟨0, fun k hk => ?_⟩
    rw [tumbrelref04_Clean.l0, if_pos (by omega), if_neg (by omega), if_pos (by omega), hw, hp]
    rfl
theorem l0_end (x : S24) (n : Nat) (o0 o1 : Int) (o2 : ByteArray) (acc : List S24) (k : Nat) : tumbrelref04_Clean.l0 (k + 1) (n : Int) (n : Int) x.f0 x.f1 x.f2 x.f3 o0 o1 o2 acc = some (o0, o1, o2, acc) := by
  rw [tumbrelref04_Clean.l0, if_neg (by omega)]
theorem clean_step (x : S24) (ih : ∀ y ∈ x.f3, CleanT y (toN (theirs y))) : CleanT x (toN (theirs x)) := by
  rw [theirs_eq]
  unfold CleanT
  by_cases k1 : x.f0 = 1
  · refine ⟨1, fun k hk => ?_⟩
    obtain ⟨k, rfl⟩ : ∃ m, k = m + 1 := ⟨k - 1, by omega⟩
    rw [tumbrelref04_Clean.f, if_pos k1, if_pos k1]
    rfl
  · by_cases k2 : x.f0 = 2
    · refine ⟨1, fun k hk => ?_⟩
      obtain ⟨k, rfl⟩ : ∃ m, k = m + 1 := ⟨k - 1, by omega⟩
      rw [tumbrelref04_Clean.f, if_neg k1, if_pos k2, if_neg k1, if_pos k2]
      rfl
    · by_cases k3 : x.f0 = 3
      · obtain ⟨K, hK⟩ := l0_step x ih 1 0 (by omega) (by omega) x.f0 0 eB [] (by simp)
        refine ⟨K + 5, fun k hk => ?_⟩
        obtain ⟨k, rfl⟩ : ∃ m, k = m + 5 := ⟨k - 5, by omega⟩
        rw [tumbrelref04_Clean.f, if_neg k1, if_neg k2, if_pos k3, tumbrelref04_Clean.j0, if_pos (by simp [k3]), tumbrelref04_Clean.j1]
        rw [if_neg k1, if_neg k2, if_pos k3]
        refine (hK (k + 1) (by omega)).trans ?_
        refine (l0_end x 1 x.f0 0 eB _ k).trans ?_
        rw [k3]
        rfl
      · by_cases k4 : x.f0 = 4
        · obtain ⟨K, hK⟩ := l0_step x ih 1 0 (by omega) (by omega) x.f0 0 eB [] (by simp)
          refine ⟨K + 5, fun k hk => ?_⟩
          obtain ⟨k, rfl⟩ : ∃ m, k = m + 5 := ⟨k - 5, by omega⟩
          rw [tumbrelref04_Clean.f, if_neg k1, if_neg k2, if_neg k3, tumbrelref04_Clean.j0, if_pos (by simp [k4]), tumbrelref04_Clean.j1]
          rw [if_neg k1, if_neg k2, if_neg k3, if_pos k4]
          refine (hK (k + 1) (by omega)).trans ?_
          refine (l0_end x 1 x.f0 0 eB _ k).trans ?_
          rw [k4]
          rfl
        · have hb : ¬ ((x.f0 == 4) = true) := by simpa using k4
          by_cases k5 : x.f0 = 5
          · obtain ⟨K, hK⟩ := l0_step x ih 2 0 (by omega) (by omega) 5 0 x.f2 [] (by simp)
            obtain ⟨K2, hK2⟩ := l0_step x ih 2 1 (by omega) (by omega) 5 0 x.f2 ([] ++ [toN (part x 0)]) (by simp)
            refine ⟨K + K2 + 6, fun k hk => ?_⟩
            obtain ⟨k, rfl⟩ : ∃ m, k = m + 6 := ⟨k - 6, by omega⟩
            rw [tumbrelref04_Clean.f, if_neg k1, if_neg k2, if_neg k3, tumbrelref04_Clean.j0, if_neg hb, if_pos k5, tumbrelref04_Clean.j1]
            rw [if_neg k1, if_neg k2, if_neg k3, if_neg k4, if_pos k5]
            refine (hK (k + 2) (by omega)).trans ?_
            refine (hK2 (k + 1) (by omega)).trans ?_
            exact l0_end x 2 5 0 x.f2 _ k
          · refine ⟨5, fun k hk => ?_⟩
            obtain ⟨k, rfl⟩ : ∃ m, k = m + 4 := ⟨k - 4, by omega⟩
            rw [tumbrelref04_Clean.f, if_neg k1, if_neg k2, if_neg k3, tumbrelref04_Clean.j0, if_neg hb, if_neg k5, tumbrelref04_Clean.j1]
            rw [if_neg k1, if_neg k2, if_neg k3, if_neg k4, if_neg k5]
            exact l0_end x 0 0 0 eB [] k
theorem clean_tot : ∀ (m : Nat) (x : S24), SizeOf.sizeOf x < m → CleanT x (toN (theirs x))
  | 0, x, h => by omega
  | m + 1, x, h => clean_step x (fun y hy => clean_tot m y (by have := mem_size hy; omega))
theorem Clean_calls (x : S24) (A : Option Addr) (c : Nat) (w : World) (hC : Kd.C k24 w A x.f3.length x.f3) (hc : x.f3.length ≤ c) :
    Calls Tryd.prog 12 #[.agg #[.int .i64 x.f0, .int .i64 x.f1, .string x.f2, .slice A x.f3.length c]] w fun e w' => ∃ A' c', e = .returned (.agg #[.int .i64 (toN (theirs x)).f0, .int .i64 (toN (theirs x)).f1, .string (toN (theirs x)).f2, .slice A' (toN (theirs x)).f3.length c']) ∧
      Kd.C k24 w' A' (toN (theirs x)).f3.length (toN (theirs x)).f3 ∧ (toN (theirs x)).f3.length ≤ c' ∧ Below w.heap.size w w' := by
  obtain ⟨K, hK⟩ := clean_tot _ x (Nat.lt_succ_self _)
  refine (tumbrelref04_Clean.calls K x.f0 x.f1 x.f2 A c x.f3 _ _ _ _ w hC hc (hK K (Nat.le_refl _))).mono ?_
  rintro e w' ⟨v, rfl, hR, hb⟩
  obtain ⟨A', c', rfl, hc', hC'⟩ := Kd.R_reads hR
  exact ⟨A', c', rfl, hC', hc', hb⟩
end Go.Proofs.YtdhlbhkpleoicaaDoor.Exp
namespace Go.Proofs.YtdhlbhkpleoicaaDoor.Exp
open Go.RowKit Go.Proofs.YtdhlbhkpleoicaaDoorW.PrintWords Go.Proofs.YtdhlbhkpleoicaaDoorW.PrintLast Go.Proofs.YtdhlbhkpleoicaaDoorW.PrintMore Go.Proofs.YtdhlbhkpleoicaaDoor.PExprEvals
open Frm
set_option linter.unusedVariables false
set_option linter.unusedSimpArgs false
def tot : Ex → Nat
  | .not x => tot x + 1
  | .neg x => tot x + 1
  | .bin _ l r => tot l + tot r + 1
  | _ => 1
theorem cnt_tot : ∀ (x : Ex) (left : Int), 0 ≤ left → cnt x left = min (tot x : Int) (left + 1)
  | .none, left, h => by simp only [cnt, tot]; omega
  | .lit _, left, h => by simp only [cnt, tot]; omega
  | .ref _, left, h => by simp only [cnt, tot]; omega
  | .not x, left, h => by
    simp only [cnt, tot]
    split
    · rw [cnt_tot x (left - 1) (by omega)]; omega
    · omega
  | .neg x, left, h => by
    simp only [cnt, tot]
    split
    · rw [cnt_tot x (left - 1) (by omega)]; omega
    · omega
  | .bin op l r, left, h => by
    simp only [cnt, tot]
    by_cases h1 : 1 ≤ left
    · rw [if_pos h1, cnt_tot l (left - 1) (by omega)]
      split
      · rename_i h3
        rw [cnt_tot r _ (by omega)]
        omega
      · omega
    · rw [if_neg h1, if_neg (by omega)]; omega
def rsnd : Ex → Bool
  | .none => false
  | .lit n => decide (0 ≤ n ∧ n ≤ 1000000000)
  | .ref s => isName s
  | .not x => rsnd x
  | .neg x => rsnd x
  | .bin op l r => isOp op && rsnd l && rsnd r
theorem wrap_pred (k : Int) (h0 : 0 < k) (h1 : k ≤ 1000) : wrap64 (k - 1) = k - 1 := by unfold wrap64; omega
theorem snd_split : ∀ (x : Ex) (k : Int), 0 ≤ k → k ≤ 1000 → (snd x k = true ↔ (dep x : Int) + 1 ≤ k ∧ rsnd x = true)
  | .none, k, h0, h1 => by simp [snd, rsnd]
  | .lit n, k, h0, h1 => by
    simp only [snd, rsnd, dep, decide_eq_true_eq]
    omega
  | .ref s, k, h0, h1 => by
    simp only [snd, rsnd, dep, decide_eq_true_eq, Bool.and_eq_true]
    constructor <;> (rintro ⟨a, b⟩; exact ⟨by omega, b⟩)
  | .not x, k, h0, h1 => by
    simp only [snd, rsnd, dep, decide_eq_true_eq, Bool.and_eq_true]
    by_cases hk : 0 < k
    · rw [wrap_pred k hk h1, snd_split x (k - 1) (by omega) (by omega)]
      constructor
      · rintro ⟨a, b, c⟩; exact ⟨by omega, c⟩
      · rintro ⟨b, c⟩; exact ⟨hk, by omega, c⟩
    · constructor
      · rintro ⟨a, b⟩; exact absurd a hk
      · rintro ⟨b, c⟩; omega
  | .neg x, k, h0, h1 => by
    simp only [snd, rsnd, dep, decide_eq_true_eq, Bool.and_eq_true]
    by_cases hk : 0 < k
    · rw [wrap_pred k hk h1, snd_split x (k - 1) (by omega) (by omega)]
      constructor
      · rintro ⟨a, b, c⟩; exact ⟨by omega, c⟩
      · rintro ⟨b, c⟩; exact ⟨hk, by omega, c⟩
    · constructor
      · rintro ⟨a, b⟩; exact absurd a hk
      · rintro ⟨b, c⟩; omega
  | .bin op l r, k, h0, h1 => by
    simp only [snd, rsnd, dep, decide_eq_true_eq, Bool.and_eq_true]
    by_cases hk : 0 < k
    · rw [wrap_pred k hk h1, snd_split l (k - 1) (by omega) (by omega), snd_split r (k - 1) (by omega) (by omega)]
      constructor
      · rintro ⟨⟨⟨o, a⟩, b, c⟩, b2, c2⟩; exact ⟨by omega, ⟨o, c⟩, c2⟩
      · rintro ⟨b, ⟨o, c⟩, c2⟩; exact ⟨⟨⟨o, hk⟩, by omega, c⟩, by omega, c2⟩
    · constructor
      · rintro ⟨⟨⟨o, a⟩, b⟩, c⟩; exact absurd a hk
      · rintro ⟨b, c⟩; omega
theorem fmd_eq (x : Ex) : fmd x = (decide (min (tot x : Int) 41 ≤ 40) && decide ((dep x : Int) + 1 ≤ 12) && rsnd x) := by
  unfold fmd
  rw [cnt_tot x 40 (by omega), Bool.eq_iff_iff]
  simp only [Bool.and_eq_true, decide_eq_true_eq]
  rw [snd_split x 12 (by omega) (by omega)]
  constructor
  · rintro ⟨a, b, c⟩; exact ⟨⟨a, b⟩, c⟩
  · rintro ⟨⟨a, b⟩, c⟩; exact ⟨a, b, c⟩
/-- The strings are short. -/
inductive AllS : S24 → Prop
  | mk (x : S24) : x.f2.size ≤ 1000 → (∀ y ∈ x.f3, AllS y) → AllS x
theorem AllS.size {x : S24} (h : AllS x) : x.f2.size ≤ 1000 := by cases h; assumption
theorem AllS.parts {x : S24} (h : AllS x) : ∀ y ∈ x.f3, AllS y := by cases h; assumption
def short : Ex → Prop
  | .ref s => s.size ≤ 1000
  | .not x => short x
  | .neg x => short x
  | .bin _ l r => short l ∧ short r
  | _ => True
theorem short_part (x : S24) (i : Nat) (h : ∀ y ∈ x.f3, short (theirs y)) : short (part x i) := by
  unfold part
  split
  · exact h _ (List.getElem_mem _)
  · trivial
theorem short_theirs : ∀ (m : Nat) (x : S24), SizeOf.sizeOf x < m → AllS x → short (theirs x)
  | 0, x, h, _ => by omega
  | m + 1, x, h, hs => by
    have ih : ∀ y ∈ x.f3, short (theirs y) := fun y hy => short_theirs m y (by have := mem_size hy; omega) (hs.parts y hy)
    rw [theirs_eq]
    repeat' split
    all_goals first | exact hs.size | trivial | exact short_part x 0 ih | exact ⟨short_part x 0 ih, short_part x 1 ih⟩
theorem smallS_loop (x : S24) (n : Nat) (hn : n ≤ 1000) (hlen : x.f3.length ≤ 9223372036854775807)
    (Q : ∀ y ∈ x.f3, ∀ depth left : Int, 0 ≤ left → left ≤ n → ∃ (r : Int) (K : Nat), r ≤ left - 1 ∧ (0 ≤ r → AllS y) ∧ ∀ k, K ≤ k → tumbrelref04_small.f k y.f0 y.f1 y.f2 y.f3 depth left = some r) :
    ∀ (d i : Nat) (depth left : Int), x.f3.length ≤ i + d → i ≤ x.f3.length → 0 ≤ left → left ≤ n → ∃ (r : Int) (K : Nat), r ≤ left ∧ (0 ≤ r → ∀ j, i ≤ j → ∀ hj : j < x.f3.length, AllS x.f3[j]) ∧ ∀ k, K ≤ k → tumbrelref04_small.l0 k depth left (x.f3.length : Int) (i : Int) x.f0 x.f1 x.f2 x.f3 = some r
  | d, i, depth, left, h1, h2, h3, h4 => by
    by_cases hlt : i < x.f3.length
    · cases d with
      | zero => omega
      | succ d =>
        have hrd : rd_T24 x.f3 (i : Int) = x.f3[i] := by simp [rd_T24, List.getD_eq_getElem?_getD, hlt]
        obtain ⟨t, K, ht, hts, hK⟩ := Q x.f3[i] (List.getElem_mem hlt) (wrap64 (depth + 1)) left h3 h4
        by_cases hneg : t < 0
        · refine ⟨-1, K + 1, by omega, fun h => absurd h (by omega), fun k hk => ?_⟩
          obtain ⟨k, rfl⟩ : ∃ m, k = m + 1 := ⟨k - 1, by omega⟩
          simp only [tumbrelref04_small.l0]
          rw [if_pos (by omega), if_pos (by omega), if_pos (by omega), hrd, hK k (by omega), Option.bind_some, if_pos hneg]
        · obtain ⟨r, K2, hr, hrs, hK2⟩ := smallS_loop x n hn hlen Q d (i + 1) depth t (by omega) (by omega) (by omega) (by omega)
          refine ⟨r, K + K2 + 1, by omega, fun h j hj hl => ?_, fun k hk => ?_⟩
          · rcases Nat.eq_or_lt_of_le hj with e | e
            · subst e; exact hts (by omega)
            · exact hrs h j e hl
          obtain ⟨k, rfl⟩ : ∃ m, k = m + 1 := ⟨k - 1, by omega⟩
          simp only [tumbrelref04_small.l0]
          rw [if_pos (by omega), if_pos (by omega), if_pos (by omega), hrd, hK k (by omega), Option.bind_some, if_neg hneg, show wrap64 ((i : Int) + 1) = ((i + 1 : Nat) : Int) from by unfold wrap64; omega]
          exact hK2 k (by omega)
    · refine ⟨left, 1, by omega, fun h j hj hl => absurd hl (by omega), fun k hk => ?_⟩
      obtain ⟨k, rfl⟩ : ∃ m, k = m + 1 := ⟨k - 1, by omega⟩
      simp only [tumbrelref04_small.l0]
      rw [if_neg (by omega)]
termination_by d => d
theorem smallS_tot : ∀ (n : Nat), n ≤ 1000 → ∀ (x : S24), okN n x → ∀ depth left : Int, 0 ≤ left → left ≤ n → ∃ (r : Int) (K : Nat), r ≤ left - 1 ∧ (0 ≤ r → AllS x) ∧ ∀ k, K ≤ k → tumbrelref04_small.f k x.f0 x.f1 x.f2 x.f3 depth left = some r
  | n, hn, x, hx, depth, left, h3, h4 => by
    have hw : wrap64 (left - 1) = left - 1 := by unfold wrap64; omega
    by_cases hneg : left - 1 < 0
    · refine ⟨-1, 3, by omega, fun h => absurd h (by omega), fun k hk => ?_⟩
      obtain ⟨k, rfl⟩ : ∃ m, k = m + 2 := ⟨k - 2, by omega⟩
      simp only [tumbrelref04_small.f, tumbrelref04_small.j0, hw, if_pos hneg]
      split <;> simp
    · cases n with
      | zero => omega
      | succ n =>
        obtain ⟨hl, hy⟩ := hx
        obtain ⟨r, K, hr, hrs, hK⟩ := smallS_loop x n (by omega) hl (fun y hm depth left h3 h4 => smallS_tot n (by omega) y (hy y hm) depth left h3 h4) x.f3.length 0 depth (left - 1) (by omega) (by omega) (by omega) (by omega)
        by_cases hd : depth > 60
        · refine ⟨-1, 3, by omega, fun h => absurd h (by omega), fun k hk => ?_⟩
          obtain ⟨k, rfl⟩ : ∃ m, k = m + 2 := ⟨k - 2, by omega⟩
          simp only [tumbrelref04_small.f, tumbrelref04_small.j0, hw, if_pos hd]
          simp
        · by_cases hs : (x.f2.size : Int) > 1000
          · refine ⟨-1, 3, by omega, fun h => absurd h (by omega), fun k hk => ?_⟩
            obtain ⟨k, rfl⟩ : ∃ m, k = m + 2 := ⟨k - 2, by omega⟩
            simp only [tumbrelref04_small.f, tumbrelref04_small.j0, hw, if_neg hd, if_neg hneg, decide_eq_true hs]
            simp
          · refine ⟨r, K + 2, by omega, fun h => ?_, fun k hk => ?_⟩
            · refine AllS.mk x (by omega) (fun y hy => ?_)
              obtain ⟨j, hj⟩ := List.getElem?_of_mem hy
              have hl := (List.getElem?_eq_some_iff.1 hj).1
              have := hrs h j (Nat.zero_le _) hl
              rwa [(List.getElem?_eq_some_iff.1 hj).2] at this
            obtain ⟨k, rfl⟩ : ∃ m, k = m + 2 := ⟨k - 2, by omega⟩
            simp only [tumbrelref04_small.f, tumbrelref04_small.j0, hw, if_neg hd, if_neg hneg, decide_eq_false hs]
            rw [if_neg (by decide)]
            exact hK k (by omega)
/-- Small answers; and if it says yes, all strings are short. -/
theorem SmallS_calls (x : S24) (hx : okN 200 x) : ∃ b : Bool, (b = true → short (theirs x)) ∧ ∀ (A : Option Addr) (c : Nat) (w : World), Kd.C k24 w A x.f3.length x.f3 → x.f3.length ≤ c →
    Calls Tryd.prog 7 #[.agg #[.int .i64 x.f0, .int .i64 x.f1, .string x.f2, .slice A x.f3.length c]] w fun e w' => e = .returned (.bool b) ∧ Below w.heap.size w w' := by
  obtain ⟨r, K, _, hs, hK⟩ := smallS_tot 200 (by omega) x hx 0 200 (by omega) (by omega)
  refine ⟨decide (r ≥ 0), fun h => short_theirs _ x (Nat.lt_succ_self _) (hs (by simpa using h)), fun A c w hC hc => ?_⟩
  exact tumbrelref04_Small.calls K x.f0 x.f1 x.f2 A c x.f3 (decide (r ≥ 0)) w hC hc (by unfold tumbrelref04_Small.f; rw [hK K (Nat.le_refl _)]; rfl)
end Go.Proofs.YtdhlbhkpleoicaaDoor.Exp
namespace Go.Proofs.YtdhlbhkpleoicaaDoor.Exp
open Go.RowKit Go.Proofs.YtdhlbhkpleoicaaDoorW.PrintWords Go.Proofs.YtdhlbhkpleoicaaDoorW.PrintLast Go.Proofs.YtdhlbhkpleoicaaDoorW.PrintMore Go.Proofs.YtdhlbhkpleoicaaDoor.PExprEvals
open Frm
set_option linter.unusedVariables false
set_option linter.unusedSimpArgs false
def nd (x : Ex) : Int := min (tot x : Int) 41
theorem tot_pos : ∀ x, 1 ≤ tot x := by intro x; cases x <;> simp [tot]
theorem mn_min (a b : Int) : mn a b = min a b := by first | rfl | (unfold mn; rfl) | (unfold mn; split <;> omega)
theorem mx_max (a b : Int) : mx a b = max a b := by first | rfl | (unfold mx; rfl) | (unfold mx; split <;> omega)
def NodesT (e : Ex) : Prop := ∃ K, ∀ k, K ≤ k → tumbrelref04_Nodes.f k (toN e).f0 (toN e).f1 (toN e).f2 (toN e).f3 = some (nd e)
theorem n0_step (a : S24) (n i : Nat) (h : i < n) (hn : n ≤ 2) (la : a.f3.length = n) (e : Ex) (ha : rd_T24 a.f3 (i : Int) = toN e) (ih : NodesT e) (acc : Int) :
    ∃ K, ∀ k, K ≤ k → tumbrelref04_Nodes.l0 (k + 1) acc (n : Int) (i : Int) a.f0 a.f1 a.f2 a.f3 = tumbrelref04_Nodes.l0 k (wrap64 (acc + nd e)) (n : Int) ((i + 1 : Nat) : Int) a.f0 a.f1 a.f2 a.f3 := by
  have hw : wrap64 ((i : Int) + 1) = ((i + 1 : Nat) : Int) := by unfold wrap64; omega
  obtain ⟨K, hK⟩ := ih
  refine ⟨K, fun k hk => ?_⟩
  rw [tumbrelref04_Nodes.l0, if_pos (by omega), if_pos (by omega), if_pos (by omega), ha, hK k hk, Option.bind_some, hw]
theorem n0_end (a : S24) (n : Nat) (k : Nat) (acc : Int) : tumbrelref04_Nodes.l0 (k + 1) acc (n : Int) (n : Int) a.f0 a.f1 a.f2 a.f3 = some (min acc 41) := by
  rw [tumbrelref04_Nodes.l0, if_neg (by omega), mn_min]
theorem nodes_none (a : S24) (ha : a.f3 = []) : ∃ K, ∀ k, K ≤ k → tumbrelref04_Nodes.f k a.f0 a.f1 a.f2 a.f3 = some 1 := by
  refine ⟨2, fun k hk => ?_⟩
  obtain ⟨k, rfl⟩ : ∃ m, k = m + 2 := ⟨k - 2, by omega⟩
  rw [tumbrelref04_Nodes.f, show (a.f3.length : Int) = ((0 : Nat) : Int) by rw [ha]; rfl]
  exact n0_end a 0 k 1
theorem nodes_one (a : S24) (e : Ex) (ha : a.f3 = [toN e]) (ih : NodesT e) : ∃ K, ∀ k, K ≤ k → tumbrelref04_Nodes.f k a.f0 a.f1 a.f2 a.f3 = some (min (1 + nd e) 41) := by
  obtain ⟨K, hK⟩ := n0_step a 1 0 (by omega) (by omega) (by rw [ha]; rfl) e (by rw [ha]; rfl) ih 1
  refine ⟨K + 5, fun k hk => ?_⟩
  obtain ⟨k, rfl⟩ : ∃ m, k = m + 3 := ⟨k - 3, by omega⟩
  rw [tumbrelref04_Nodes.f, show (a.f3.length : Int) = ((1 : Nat) : Int) by rw [ha]; rfl]
  refine (hK (k + 1) (by omega)).trans ?_
  refine (n0_end a 1 k _).trans ?_
  have h1 := tot_pos e
  rw [show wrap64 (1 + nd e) = 1 + nd e by unfold wrap64 nd; omega]
theorem nodes_two (a : S24) (e e2 : Ex) (ha : a.f3 = [toN e, toN e2]) (ih : NodesT e) (ih2 : NodesT e2) : ∃ K, ∀ k, K ≤ k → tumbrelref04_Nodes.f k a.f0 a.f1 a.f2 a.f3 = some (min (1 + nd e + nd e2) 41) := by
  obtain ⟨K, hK⟩ := n0_step a 2 0 (by omega) (by omega) (by rw [ha]; rfl) e (by rw [ha]; rfl) ih 1
  obtain ⟨K2, hK2⟩ := n0_step a 2 1 (by omega) (by omega) (by rw [ha]; rfl) e2 (by rw [ha]; rfl) ih2 (wrap64 (1 + nd e))
  refine ⟨K + K2 + 6, fun k hk => ?_⟩
  obtain ⟨k, rfl⟩ : ∃ m, k = m + 4 := ⟨k - 4, by omega⟩
  rw [tumbrelref04_Nodes.f, show (a.f3.length : Int) = ((2 : Nat) : Int) by rw [ha]; rfl]
  refine (hK (k + 2) (by omega)).trans ?_
  refine (hK2 (k + 1) (by omega)).trans ?_
  refine (n0_end a 2 k _).trans ?_
  have h1 := tot_pos e
  have h2 := tot_pos e2
  rw [show wrap64 (wrap64 (1 + nd e) + nd e2) = 1 + nd e + nd e2 by unfold wrap64 nd; omega]
theorem nodes_tot : ∀ e, NodesT e := by
  intro e
  induction e with
  | none => exact nodes_none (toN .none) rfl
  | lit n => exact nodes_none (toN (.lit n)) rfl
  | ref s => exact nodes_none (toN (.ref s)) rfl
  | not x ih =>
    obtain ⟨K, hK⟩ := nodes_one (toN (.not x)) x rfl ih
    refine ⟨K, fun k hk => (hK k hk).trans ?_⟩
    congr 1
    simp only [nd, tot]
    omega
  | neg x ih =>
    obtain ⟨K, hK⟩ := nodes_one (toN (.neg x)) x rfl ih
    refine ⟨K, fun k hk => (hK k hk).trans ?_⟩
    congr 1
    simp only [nd, tot]
    omega
  | bin o l r ih1 ih2 =>
    obtain ⟨K, hK⟩ := nodes_two (toN (.bin o l r)) l r rfl ih1 ih2
    refine ⟨K, fun k hk => (hK k hk).trans ?_⟩
    congr 1
    simp only [nd, tot]
    omega
theorem dep_tot : ∀ x, dep x + 1 ≤ tot x := by
  intro x
  induction x <;> simp only [dep, tot] <;> omega
def DeepT (e : Ex) : Prop := ∃ K, ∀ k, K ≤ k → tumbrelref04_deep.f k (toN e).f0 (toN e).f1 (toN e).f2 (toN e).f3 = some ((dep e : Int) + 1)
theorem d0_step (a : S24) (n i : Nat) (h : i < n) (hn : n ≤ 2) (la : a.f3.length = n) (e : Ex) (ha : rd_T24 a.f3 (i : Int) = toN e) (ih : DeepT e) (acc : Int) :
    ∃ K, ∀ k, K ≤ k → tumbrelref04_deep.l0 (k + 1) acc (n : Int) (i : Int) a.f0 a.f1 a.f2 a.f3 = tumbrelref04_deep.l0 k (max acc ((dep e : Int) + 1)) (n : Int) ((i + 1 : Nat) : Int) a.f0 a.f1 a.f2 a.f3 := by
  have hw : wrap64 ((i : Int) + 1) = ((i + 1 : Nat) : Int) := by unfold wrap64; omega
  obtain ⟨K, hK⟩ := ih
  refine ⟨K, fun k hk => ?_⟩
  rw [tumbrelref04_deep.l0, if_pos (by omega), if_pos (by omega), if_pos (by omega), ha, hK k hk, Option.bind_some, hw, mx_max]
theorem d0_end (a : S24) (n : Nat) (k : Nat) (acc : Int) (h0 : 0 ≤ acc) (h1 : acc ≤ 1000) : tumbrelref04_deep.l0 (k + 1) acc (n : Int) (n : Int) a.f0 a.f1 a.f2 a.f3 = some (acc + 1) := by
  rw [tumbrelref04_deep.l0, if_neg (by omega)]
  congr 1
  unfold wrap64
  omega
theorem deep_none (a : S24) (ha : a.f3 = []) : ∃ K, ∀ k, K ≤ k → tumbrelref04_deep.f k a.f0 a.f1 a.f2 a.f3 = some 1 := by
  refine ⟨2, fun k hk => ?_⟩
  obtain ⟨k, rfl⟩ : ∃ m, k = m + 2 := ⟨k - 2, by omega⟩
  rw [tumbrelref04_deep.f, show (a.f3.length : Int) = ((0 : Nat) : Int) by rw [ha]; rfl]
  exact d0_end a 0 k 0 (by omega) (by omega)
theorem deep_one (a : S24) (e : Ex) (hd : dep e ≤ 100) (ha : a.f3 = [toN e]) (ih : DeepT e) : ∃ K, ∀ k, K ≤ k → tumbrelref04_deep.f k a.f0 a.f1 a.f2 a.f3 = some ((dep e : Int) + 1 + 1) := by
  obtain ⟨K, hK⟩ := d0_step a 1 0 (by omega) (by omega) (by rw [ha]; rfl) e (by rw [ha]; rfl) ih 0
  refine ⟨K + 5, fun k hk => ?_⟩
  obtain ⟨k, rfl⟩ : ∃ m, k = m + 3 := ⟨k - 3, by omega⟩
  rw [tumbrelref04_deep.f, show (a.f3.length : Int) = ((1 : Nat) : Int) by rw [ha]; rfl]
  refine (hK (k + 1) (by omega)).trans ?_
  refine (d0_end a 1 k _ (by omega) (by omega)).trans ?_
  congr 1
  first | done | omega
theorem deep_two (a : S24) (e e2 : Ex) (hd : dep e ≤ 100) (hd2 : dep e2 ≤ 100) (ha : a.f3 = [toN e, toN e2]) (ih : DeepT e) (ih2 : DeepT e2) : ∃ K, ∀ k, K ≤ k → tumbrelref04_deep.f k a.f0 a.f1 a.f2 a.f3 = some (((max (dep e) (dep e2) : Nat) : Int) + 1 + 1) := by
  obtain ⟨K, hK⟩ := d0_step a 2 0 (by omega) (by omega) (by rw [ha]; rfl) e (by rw [ha]; rfl) ih 0
  obtain ⟨K2, hK2⟩ := d0_step a 2 1 (by omega) (by omega) (by rw [ha]; rfl) e2 (by rw [ha]; rfl) ih2 (max 0 ((dep e : Int) + 1))
  refine ⟨K + K2 + 6, fun k hk => ?_⟩
  obtain ⟨k, rfl⟩ : ∃ m, k = m + 4 := ⟨k - 4, by omega⟩
  rw [tumbrelref04_deep.f, show (a.f3.length : Int) = ((2 : Nat) : Int) by rw [ha]; rfl]
  refine (hK (k + 2) (by omega)).trans ?_
  refine (hK2 (k + 1) (by omega)).trans ?_
  refine (d0_end a 2 k _ (by omega) (by omega)).trans ?_
  congr 1
  omega
theorem deep_tot : ∀ e, tot e ≤ 40 → DeepT e := by
  intro e
  induction e with
  | none => intro _; exact deep_none (toN .none) rfl
  | lit n => intro _; exact deep_none (toN (.lit n)) rfl
  | ref s => intro _; exact deep_none (toN (.ref s)) rfl
  | not x ih =>
    intro h
    simp only [tot] at h
    have hd := dep_tot x
    obtain ⟨K, hK⟩ := deep_one (toN (.not x)) x (by omega) rfl (ih (by omega))
    refine ⟨K, fun k hk => (hK k hk).trans ?_⟩
    congr 1
  | neg x ih =>
    intro h
    simp only [tot] at h
    have hd := dep_tot x
    obtain ⟨K, hK⟩ := deep_one (toN (.neg x)) x (by omega) rfl (ih (by omega))
    refine ⟨K, fun k hk => (hK k hk).trans ?_⟩
    congr 1
  | bin o l r ih1 ih2 =>
    intro h
    simp only [tot] at h
    have hd := dep_tot l
    have hd2 := dep_tot r
    obtain ⟨K, hK⟩ := deep_two (toN (.bin o l r)) l r (by omega) (by omega) rfl (ih1 (by omega)) (ih2 (by omega))
    refine ⟨K, fun k hk => (hK k hk).trans ?_⟩
    congr 1
theorem op_at (s : ByteArray) (l : List UInt8) (c : ByteArray) (h : c.toList = l) : s.toList = l ↔ s = c := by rw [← h]; exact bytes_iff _ _
theorem op_plus (s : ByteArray) : s.toList = ([43] : List UInt8) ↔ s = sPlus := op_at s _ sPlus (by decide +kernel)
theorem op_minus (s : ByteArray) : s.toList = ([45] : List UInt8) ↔ s = sMinus := op_at s _ sMinus (by decide +kernel)
theorem op_mul (s : ByteArray) : s.toList = ([42] : List UInt8) ↔ s = sMul := op_at s _ sMul (by decide +kernel)
theorem op_less (s : ByteArray) : s.toList = ([60] : List UInt8) ↔ s = sLess := op_at s _ sLess (by decide +kernel)
theorem op_leq (s : ByteArray) : s.toList = ([60, 61] : List UInt8) ↔ s = sLeq := op_at s _ sLeq (by decide +kernel)
theorem op_eq (s : ByteArray) : s.toList = ([61, 61] : List UInt8) ↔ s = sEq := op_at s _ sEq (by decide +kernel)
theorem op_ne (s : ByteArray) : s.toList = ([33, 61] : List UInt8) ↔ s = sNe := op_at s _ sNe (by decide +kernel)
theorem op_and (s : ByteArray) : s.toList = ([38, 38] : List UInt8) ↔ s = sAnd := op_at s _ sAnd (by decide +kernel)
theorem op_or (s : ByteArray) : s.toList = ([124, 124] : List UInt8) ↔ s = sOr := op_at s _ sOr (by decide +kernel)
end Go.Proofs.YtdhlbhkpleoicaaDoor.Exp
