/- The document's Nodes, deep and eval, over plain trees. -/
import Derived.Test.YtdhlbhkpleoicaaDoorExTot
namespace Go.Proofs.YtdhlbhkpleoicaaDoor.Exp
open Go.RowKit Go.Proofs.YtdhlbhkpleoicaaDoorW.PrintWords Go.Proofs.YtdhlbhkpleoicaaDoorW.PrintLast Go.Proofs.YtdhlbhkpleoicaaDoorW.PrintMore Go.Proofs.YtdhlbhkpleoicaaDoor.PExprEvals
open Frm
set_option linter.unusedVariables false
set_option linter.unusedSimpArgs false
def nd (x : Ex) : Int := min (tot x : Int) 41
theorem tot_pos : ∀ x, 1 ≤ tot x := by intro x; cases x <;> simp [tot]
theorem mn_min (a b : Int) : mn a b = min a b := by first | rfl | (unfold mn; rfl) | (unfold mn; split <;> omega)
theorem mx_max (a b : Int) : mx a b = max a b := by first | rfl | (unfold mx; rfl) | (unfold mx; split <;> omega)
def NodesT (e : Ex) : Prop := ∃ K, ∀ k, K ≤ k → tumbrelref04_Nodes.f k (toN e).f0 (toN e).f1 (toN e).f2 (toN e).f3 = some (nd e)
theorem n0_step (a : S24) (n i : Nat) (h : i < n) (hn : n ≤ 2) (la : a.f3.length = n) (e : Ex) (ha : rd_T24 a.f3 (i : Int) = toN e) (ih : NodesT e) (acc : Int) :
    ∃ K, ∀ k, K ≤ k → tumbrelref04_Nodes.l0 (k + 1) acc (n : Int) (i : Int) a.f0 a.f1 a.f2 a.f3 = tumbrelref04_Nodes.l0 k (wrap64 (acc + nd e)) (n : Int) ((i + 1 : Nat) : Int) a.f0 a.f1 a.f2 a.f3 := by
  have hw : wrap64 ((i : Int) + 1) = ((i + 1 : Nat) : Int) := by unfold wrap64; omega
  obtain ⟨K, hK⟩ := ih
  refine ⟨K, fun k hk => ?_⟩
  rw [tumbrelref04_Nodes.l0, if_pos (by omega), if_pos (by omega), if_pos (by omega), ha, hK k hk, Option.bind_some, hw]
theorem n0_end (a : S24) (n : Nat) (k : Nat) (acc : Int) : tumbrelref04_Nodes.l0 (k + 1) acc (n : Int) (n : Int) a.f0 a.f1 a.f2 a.f3 = some (min acc 41) := by
  rw [tumbrelref04_Nodes.l0, if_neg (by omega), mn_min]
theorem nodes_none (a : S24) (ha : a.f3 = []) : ∃ K, ∀ k, K ≤ k → tumbrelref04_Nodes.f k a.f0 a.f1 a.f2 a.f3 = some 1 := by
  refine ⟨2, fun k hk => ?_⟩
  obtain ⟨k, rfl⟩ : ∃ m, k = m + 2 := ⟨k - 2, by omega⟩
  rw [tumbrelref04_Nodes.f, show (a.f3.length : Int) = ((0 : Nat) : Int) by rw [ha]; rfl]
  exact n0_end a 0 k 1
theorem nodes_one (a : S24) (e : Ex) (ha : a.f3 = [toN e]) (ih : NodesT e) : ∃ K, ∀ k, K ≤ k → tumbrelref04_Nodes.f k a.f0 a.f1 a.f2 a.f3 = some (min (1 + nd e) 41) := by
  obtain ⟨K, hK⟩ := n0_step a 1 0 (by omega) (by omega) (by rw [ha]; rfl) e (by rw [ha]; rfl) ih 1
  refine ⟨K + 5, fun k hk => ?_⟩
  obtain ⟨k, rfl⟩ : ∃ m, k = m + 3 := ⟨k - 3, by omega⟩
  rw [tumbrelref04_Nodes.f, show (a.f3.length : Int) = ((1 : Nat) : Int) by rw [ha]; rfl]
  refine (hK (k + 1) (by omega)).trans ?_
  refine (n0_end a 1 k _).trans ?_
  have h1 := tot_pos e
  rw [show wrap64 (1 + nd e) = 1 + nd e by unfold wrap64 nd; omega]
theorem nodes_two (a : S24) (e e2 : Ex) (ha : a.f3 = [toN e, toN e2]) (ih : NodesT e) (ih2 : NodesT e2) : ∃ K, ∀ k, K ≤ k → tumbrelref04_Nodes.f k a.f0 a.f1 a.f2 a.f3 = some (min (1 + nd e + nd e2) 41) := by
  obtain ⟨K, hK⟩ := n0_step a 2 0 (by omega) (by omega) (by rw [ha]; rfl) e (by rw [ha]; rfl) ih 1
  obtain ⟨K2, hK2⟩ := n0_step a 2 1 (by omega) (by omega) (by rw [ha]; rfl) e2 (by rw [ha]; rfl) ih2 (wrap64 (1 + nd e))
  refine ⟨K + K2 + 6, fun k hk => ?_⟩
  obtain ⟨k, rfl⟩ : ∃ m, k = m + 4 := ⟨k - 4, by omega⟩
  rw [tumbrelref04_Nodes.f, show (a.f3.length : Int) = ((2 : Nat) : Int) by rw [ha]; rfl]
  refine (hK (k + 2) (by omega)).trans ?_
  refine (hK2 (k + 1) (by omega)).trans ?_
  refine (n0_end a 2 k _).trans ?_
  have h1 := tot_pos e
  have h2 := tot_pos e2
  rw [show wrap64 (wrap64 (1 + nd e) + nd e2) = 1 + nd e + nd e2 by unfold wrap64 nd; omega]
theorem nodes_tot : ∀ e, NodesT e := by
  intro e
  induction e with
  | none => exact nodes_none (toN .none) rfl
  | lit n => exact nodes_none (toN (.lit n)) rfl
  | ref s => exact nodes_none (toN (.ref s)) rfl
  | not x ih =>
    obtain ⟨K, hK⟩ := nodes_one (toN (.not x)) x rfl ih
    refine ⟨K, fun k hk => (hK k hk).trans ?_⟩
    congr 1
    simp only [nd, tot]
    omega
  | neg x ih =>
    obtain ⟨K, hK⟩ := nodes_one (toN (.neg x)) x rfl ih
    refine ⟨K, fun k hk => (hK k hk).trans ?_⟩
    congr 1
    simp only [nd, tot]
    omega
  | bin o l r ih1 ih2 =>
    obtain ⟨K, hK⟩ := nodes_two (toN (.bin o l r)) l r rfl ih1 ih2
    refine ⟨K, fun k hk => (hK k hk).trans ?_⟩
    congr 1
    simp only [nd, tot]
    omega
theorem dep_tot : ∀ x, dep x + 1 ≤ tot x := by
  intro x
  induction x <;> simp only [dep, tot] <;> omega
def DeepT (e : Ex) : Prop := ∃ K, ∀ k, K ≤ k → tumbrelref04_deep.f k (toN e).f0 (toN e).f1 (toN e).f2 (toN e).f3 = some ((dep e : Int) + 1)
theorem d0_step (a : S24) (n i : Nat) (h : i < n) (hn : n ≤ 2) (la : a.f3.length = n) (e : Ex) (ha : rd_T24 a.f3 (i : Int) = toN e) (ih : DeepT e) (acc : Int) :
    ∃ K, ∀ k, K ≤ k → tumbrelref04_deep.l0 (k + 1) acc (n : Int) (i : Int) a.f0 a.f1 a.f2 a.f3 = tumbrelref04_deep.l0 k (max acc ((dep e : Int) + 1)) (n : Int) ((i + 1 : Nat) : Int) a.f0 a.f1 a.f2 a.f3 := by
  have hw : wrap64 ((i : Int) + 1) = ((i + 1 : Nat) : Int) := by unfold wrap64; omega
  obtain ⟨K, hK⟩ := ih
  refine ⟨K, fun k hk => ?_⟩
  rw [tumbrelref04_deep.l0, if_pos (by omega), if_pos (by omega), if_pos (by omega), ha, hK k hk, Option.bind_some, hw, mx_max]
theorem d0_end (a : S24) (n : Nat) (k : Nat) (acc : Int) (h0 : 0 ≤ acc) (h1 : acc ≤ 1000) : tumbrelref04_deep.l0 (k + 1) acc (n : Int) (n : Int) a.f0 a.f1 a.f2 a.f3 = some (acc + 1) := by
  rw [tumbrelref04_deep.l0, if_neg (by omega)]
  congr 1
  unfold wrap64
  omega
theorem deep_none (a : S24) (ha : a.f3 = []) : ∃ K, ∀ k, K ≤ k → tumbrelref04_deep.f k a.f0 a.f1 a.f2 a.f3 = some 1 := by
  refine ⟨2, fun k hk => ?_⟩
  obtain ⟨k, rfl⟩ : ∃ m, k = m + 2 := ⟨k - 2, by omega⟩
  rw [tumbrelref04_deep.f, show (a.f3.length : Int) = ((0 : Nat) : Int) by rw [ha]; rfl]
  exact d0_end a 0 k 0 (by omega) (by omega)
theorem deep_one (a : S24) (e : Ex) (hd : dep e ≤ 100) (ha : a.f3 = [toN e]) (ih : DeepT e) : ∃ K, ∀ k, K ≤ k → tumbrelref04_deep.f k a.f0 a.f1 a.f2 a.f3 = some ((dep e : Int) + 1 + 1) := by
  obtain ⟨K, hK⟩ := d0_step a 1 0 (by omega) (by omega) (by rw [ha]; rfl) e (by rw [ha]; rfl) ih 0
  refine ⟨K + 5, fun k hk => ?_⟩
  obtain ⟨k, rfl⟩ : ∃ m, k = m + 3 := ⟨k - 3, by omega⟩
  rw [tumbrelref04_deep.f, show (a.f3.length : Int) = ((1 : Nat) : Int) by rw [ha]; rfl]
  refine (hK (k + 1) (by omega)).trans ?_
  refine (d0_end a 1 k _ (by omega) (by omega)).trans ?_
  congr 1
  first | done | omega
theorem deep_two (a : S24) (e e2 : Ex) (hd : dep e ≤ 100) (hd2 : dep e2 ≤ 100) (ha : a.f3 = [toN e, toN e2]) (ih : DeepT e) (ih2 : DeepT e2) : ∃ K, ∀ k, K ≤ k → tumbrelref04_deep.f k a.f0 a.f1 a.f2 a.f3 = some (((max (dep e) (dep e2) : Nat) : Int) + 1 + 1) := by
  obtain ⟨K, hK⟩ := d0_step a 2 0 (by omega) (by omega) (by rw [ha]; rfl) e (by rw [ha]; rfl) ih 0
  obtain ⟨K2, hK2⟩ := d0_step a 2 1 (by omega) (by omega) (by rw [ha]; rfl) e2 (by rw [ha]; rfl) ih2 (max 0 ((dep e : Int) + 1))
  refine ⟨K + K2 + 6, fun k hk => ?_⟩
  obtain ⟨k, rfl⟩ : ∃ m, k = m + 4 := ⟨k - 4, by omega⟩
  rw [tumbrelref04_deep.f, show (a.f3.length : Int) = ((2 : Nat) : Int) by rw [ha]; rfl]
  refine (hK (k + 2) (by omega)).trans ?_
  refine (hK2 (k + 1) (by omega)).trans ?_
  refine (d0_end a 2 k _ (by omega) (by omega)).trans ?_
  congr 1
  omega
theorem deep_tot : ∀ e, tot e ≤ 40 → DeepT e := by
  intro e
  induction e with
  | none => intro _; exact deep_none (toN .none) rfl
  | lit n => intro _; exact deep_none (toN (.lit n)) rfl
  | ref s => intro _; exact deep_none (toN (.ref s)) rfl
  | not x ih =>
    intro h
    simp only [tot] at h
    have hd := dep_tot x
    obtain ⟨K, hK⟩ := deep_one (toN (.not x)) x (by omega) rfl (ih (by omega))
    refine ⟨K, fun k hk => (hK k hk).trans ?_⟩
    congr 1
  | neg x ih =>
    intro h
    simp only [tot] at h
    have hd := dep_tot x
    obtain ⟨K, hK⟩ := deep_one (toN (.neg x)) x (by omega) rfl (ih (by omega))
    refine ⟨K, fun k hk => (hK k hk).trans ?_⟩
    congr 1
  | bin o l r ih1 ih2 =>
    intro h
    simp only [tot] at h
    have hd := dep_tot l
    have hd2 := dep_tot r
    obtain ⟨K, hK⟩ := deep_two (toN (.bin o l r)) l r (by omega) (by omega) rfl (ih1 (by omega)) (ih2 (by omega))
    refine ⟨K, fun k hk => (hK k hk).trans ?_⟩
    congr 1
/-- What an evaluation answers: nothing but the error, where there is one. -/
def cl (p : Int × Int) : Int × Int := if p.2 ≠ 0 then (0, p.2) else (p.1, 0)
theorem within_f (n : Int) : tumbrelref04_within.f n = some (cl (withB n)) := by
  unfold tumbrelref04_within.f cl withB bnd
  by_cases h1 : n < -1000000000
  · simp [h1]
  · by_cases h2 : n > 1000000000
    · simp [h1, h2]
    · simp [h1, h2]
theorem rtruth_f (b : Bool) : tumbrelref04_truth.f b = some (tru b) := by
  unfold tumbrelref04_truth.f tru
  cases b <;> rfl
theorem look_l0 (a : S24) (vs : List S46) (hvl : vs.length ≤ 140737488351232) : ∀ (d i : Nat), vs.length ≤ i + d → i ≤ vs.length → ∃ K, ∀ k, K ≤ k →
    tumbrelref04_eval.l0 k vs (vs.length : Int) (i : Int) a.f0 a.f1 a.f2 a.f3 = some (cl (if findV a.f2 (vs.drop i) i < 0 then (0, 5) else ((rd_T46 vs (findV a.f2 (vs.drop i) i)).f1, bnd (rd_T46 vs (findV a.f2 (vs.drop i) i)).f1)))
  | d, i, h1, h2 => by
    by_cases hlt : i < vs.length
    · cases d with
      | zero => omega
      | succ d =>
        have hf := findV_drop a.f2 vs i hlt
        by_cases he : (rd_T46 vs (i : Int)).f0 = a.f2
        · rw [decide_eq_true he, if_pos rfl] at hf
          refine ⟨1, fun k hk => ?_⟩
          obtain ⟨k, rfl⟩ : ∃ m, k = m + 1 := ⟨k - 1, by omega⟩
          rw [hf, if_neg (by omega), tumbrelref04_eval.l0, if_pos (by omega), if_pos (by omega), if_pos (by omega), if_pos (by rw [he]), within_f]
          rfl
        · rw [decide_eq_false he, if_neg (by decide)] at hf
          obtain ⟨K, hK⟩ := look_l0 a vs hvl d (i + 1) (by omega) (by omega)
          refine ⟨K + 1, fun k hk => ?_⟩
          obtain ⟨k, rfl⟩ : ∃ m, k = m + 1 := ⟨k - 1, by omega⟩
          rw [hf, tumbrelref04_eval.l0, if_pos (by omega), if_pos (by omega), if_pos (by omega), if_neg (fun h => he ((bytes_iff _ _).1 h)), show wrap64 ((i : Int) + 1) = ((i + 1 : Nat) : Int) from by unfold wrap64; omega]
          exact hK k (by omega)
    · refine ⟨1, fun k hk => ?_⟩
      obtain ⟨k, rfl⟩ : ∃ m, k = m + 1 := ⟨k - 1, by omega⟩
      rw [tumbrelref04_eval.l0, if_neg (by omega), show i = vs.length by omega, List.drop_length]
      rfl
termination_by d => d
def EvalT (vs : List S46) (e : Ex) : Prop := ∃ K, ∀ k, K ≤ k → tumbrelref04_eval.f k (toN e).f0 (toN e).f1 (toN e).f2 (toN e).f3 vs = some (cl (ev vs e))
theorem cl_zero (n : Int) : cl (n, 0) = (n, 0) := rfl
theorem cl_snd (p : Int × Int) : (cl p).2 = p.2 := by
  unfold cl
  split
  · rfl
  · rename_i h; simpa using (Decidable.not_not.1 h).symm
theorem op_at (s : ByteArray) (l : List UInt8) (c : ByteArray) (h : c.toList = l) : s.toList = l ↔ s = c := by rw [← h]; exact bytes_iff _ _
theorem op_plus (s : ByteArray) : s.toList = ([43] : List UInt8) ↔ s = sPlus := op_at s _ sPlus (by decide +kernel)
theorem op_minus (s : ByteArray) : s.toList = ([45] : List UInt8) ↔ s = sMinus := op_at s _ sMinus (by decide +kernel)
theorem op_mul (s : ByteArray) : s.toList = ([42] : List UInt8) ↔ s = sMul := op_at s _ sMul (by decide +kernel)
theorem op_less (s : ByteArray) : s.toList = ([60] : List UInt8) ↔ s = sLess := op_at s _ sLess (by decide +kernel)
theorem op_leq (s : ByteArray) : s.toList = ([60, 61] : List UInt8) ↔ s = sLeq := op_at s _ sLeq (by decide +kernel)
theorem op_eq (s : ByteArray) : s.toList = ([61, 61] : List UInt8) ↔ s = sEq := op_at s _ sEq (by decide +kernel)
theorem op_ne (s : ByteArray) : s.toList = ([33, 61] : List UInt8) ↔ s = sNe := op_at s _ sNe (by decide +kernel)
theorem op_and (s : ByteArray) : s.toList = ([38, 38] : List UInt8) ↔ s = sAnd := op_at s _ sAnd (by decide +kernel)
theorem op_or (s : ByteArray) : s.toList = ([124, 124] : List UInt8) ↔ s = sOr := op_at s _ sOr (by decide +kernel)
theorem eval_second (vs : List S46) (a : S24) (x : Int) (r : Ex) (e0 : S24) (ha : a.f3 = [e0, toN r]) (ih : EvalT vs r) :
    ∃ K, ∀ k, K ≤ k → tumbrelref04_eval.j2 k vs x a.f0 a.f1 a.f2 a.f3 = some (cl (if (ev vs r).2 ≠ 0 then (0, (ev vs r).2) else arith a.f2 x (ev vs r).1)) := by
  obtain ⟨K, hK⟩ := ih
  refine ⟨K + 1, fun k hk => ?_⟩
  obtain ⟨k, rfl⟩ : ∃ m, k = m + 1 := ⟨k - 1, by omega⟩
  have h1 : rd_T24 a.f3 1 = toN r := by rw [ha]; rfl
  rw [tumbrelref04_eval.j2, if_pos (by rw [ha]; simp), h1, hK k (by omega), Option.bind_some, cl_snd]
  obtain ⟨⟨y, f⟩, hr⟩ : ∃ p, ev vs r = p := ⟨_, rfl⟩
  rw [hr]
  simp only []
  by_cases hf : f = 0
  · subst hf
    rw [if_pos rfl, if_neg (c := (0 : Int) ≠ 0) (by decide), cl_zero]
    simp only [op_plus, op_minus, op_mul, op_less, op_leq, op_eq, op_ne, within_f, rtruth_f, Option.bind_some]
    unfold arith
    by_cases h_sPlus : a.f2 = sPlus
    · rw [if_pos h_sPlus, if_pos h_sPlus]
      all_goals rfl
    rw [if_neg h_sPlus, if_neg h_sPlus]
    by_cases h_sMinus : a.f2 = sMinus
    · rw [if_pos h_sMinus, if_pos h_sMinus]
      all_goals rfl
    rw [if_neg h_sMinus, if_neg h_sMinus]
    by_cases h_sMul : a.f2 = sMul
    · rw [if_pos h_sMul, if_pos h_sMul]
      all_goals rfl
    rw [if_neg h_sMul, if_neg h_sMul]
    by_cases h_sLess : a.f2 = sLess
    · rw [if_pos h_sLess, if_pos h_sLess]
      all_goals rfl
    rw [if_neg h_sLess, if_neg h_sLess]
    by_cases h_sLeq : a.f2 = sLeq
    · rw [if_pos h_sLeq, if_pos h_sLeq]
      all_goals rfl
    rw [if_neg h_sLeq, if_neg h_sLeq]
    by_cases h_sEq : a.f2 = sEq
    · rw [if_pos h_sEq, if_pos h_sEq]
      all_goals rfl
    rw [if_neg h_sEq, if_neg h_sEq]
    by_cases h_sNe : a.f2 = sNe
    · rw [if_pos h_sNe, if_pos h_sNe]
      all_goals rfl
    rw [if_neg h_sNe, if_neg h_sNe]
    rfl
  · rw [if_neg hf, if_pos hf]
    simp [cl, hf]
theorem ev_bin (vs : List S46) (o : ByteArray) (l r : Ex) : ev vs (.bin o l r) = if (ev vs l).2 ≠ 0 ∨ (o = sAnd ∧ (ev vs l).1 = 0) ∨ (o = sOr ∧ (ev vs l).1 ≠ 0) then (tru ((ev vs l).1 != 0), (ev vs l).2)
    else if (ev vs r).2 ≠ 0 then (0, (ev vs r).2) else arith o (ev vs l).1 (ev vs r).1 := by rw [ev]
theorem eval_tot (vs : List S46) (hvl : vs.length ≤ 140737488351232) : ∀ e, full e = true → EvalT vs e := by
  intro e
  induction e with
  | none => intro h; cases h
  | lit n =>
    intro _
    refine ⟨1, fun k hk => ?_⟩
    obtain ⟨k, rfl⟩ : ∃ m, k = m + 1 := ⟨k - 1, by omega⟩
    rfl
  | ref s =>
    intro _
    obtain ⟨K, hK⟩ := look_l0 (toN (.ref s)) vs hvl vs.length 0 (by omega) (by omega)
    refine ⟨K + 1, fun k hk => ?_⟩
    obtain ⟨k, rfl⟩ : ∃ m, k = m + 1 := ⟨k - 1, by omega⟩
    rw [tumbrelref04_eval.f, if_neg (by simp [toN]), if_pos (show (toN (.ref s)).f0 = 2 from rfl)]
    exact hK k (by omega)
  | not x ih =>
    intro h
    obtain ⟨K, hK⟩ := ih (by simpa only [full] using h)
    refine ⟨K + 1, fun k hk => ?_⟩
    obtain ⟨k, rfl⟩ : ∃ m, k = m + 1 := ⟨k - 1, by omega⟩
    have h1 : rd_T24 (toN (.not x)).f3 0 = toN x := rfl
    rw [tumbrelref04_eval.f, if_neg (by simp [toN]), if_neg (by simp [toN]), if_pos (by simp [toN]), h1, hK k (by omega), Option.bind_some, cl_snd]
    simp only [ev]
    obtain ⟨⟨y, f⟩, hr⟩ : ∃ p, ev vs x = p := ⟨_, rfl⟩
    rw [hr]
    simp only []
    by_cases hf : f = 0
    · subst hf
      rw [if_pos rfl, if_pos (by rfl), rtruth_f]
      rfl
    · rw [if_neg hf]
      simp [cl, hf]
  | neg x ih =>
    intro h
    obtain ⟨K, hK⟩ := ih (by simpa only [full] using h)
    refine ⟨K + 1, fun k hk => ?_⟩
    obtain ⟨k, rfl⟩ : ∃ m, k = m + 1 := ⟨k - 1, by omega⟩
    have h1 : rd_T24 (toN (.neg x)).f3 0 = toN x := rfl
    rw [tumbrelref04_eval.f, if_neg (by simp [toN]), if_neg (by simp [toN]), if_pos (by simp [toN]), h1, hK k (by omega), Option.bind_some, cl_snd]
    simp only [ev]
    obtain ⟨⟨y, f⟩, hr⟩ : ∃ p, ev vs x = p := ⟨_, rfl⟩
    rw [hr]
    simp only []
    by_cases hf : f = 0
    · subst hf
      rw [if_pos rfl, if_neg (by simp [toN]), if_pos (by rfl)]
      rfl
    · rw [if_neg hf]
      simp [cl, hf]
  | bin o l r ih1 ih2 =>
    intro h
    simp only [full, Bool.and_eq_true] at h
    obtain ⟨K, hK⟩ := ih1 h.1
    have hS := fun x => eval_second vs (toN (.bin o l r)) x r (toN l) rfl (ih2 h.2)
    rw [EvalT, ev_bin]
    obtain ⟨⟨y, f⟩, hr⟩ : ∃ p, ev vs l = p := ⟨_, rfl⟩
    rw [hr] at hK ⊢
    obtain ⟨K2, hK2⟩ := hS y
    refine ⟨K + K2 + 3, fun k hk => ?_⟩
    obtain ⟨k, rfl⟩ : ∃ m, k = m + 2 := ⟨k - 2, by omega⟩
    have h1 : rd_T24 (toN (.bin o l r)).f3 0 = toN l := rfl
    have o2 : (toN (.bin o l r)).f2 = o := rfl
    rw [tumbrelref04_eval.f, if_neg (by simp [toN]), if_neg (by simp [toN]), if_pos (by simp [toN]), h1, hK (k + 1) (by omega), Option.bind_some, cl_snd]
    simp only []
    by_cases hf : f = 0
    · subst hf
      rw [if_pos rfl, if_neg (by simp [toN]), if_neg (by simp [toN]), cl_zero, o2, tumbrelref04_eval.j1, tumbrelref04_eval.j1]
      simp only [op_and, op_or]
      have hj := hK2 k (by omega)
      rw [o2] at hj
      rw [hj]
      by_cases ha : o = sAnd
      · have no : ¬ (o = sOr) := by rw [ha]; decide
        rw [if_pos ha, if_neg no]
        by_cases hy : y = 0
        · subst hy
          rw [if_pos (by simp), if_pos (.inr (.inl ⟨ha, rfl⟩))]
          rfl
        · rw [if_neg (by simpa using hy), if_neg (c := (0 : Int) ≠ 0 ∨ (o = sAnd ∧ y = 0) ∨ (o = sOr ∧ y ≠ 0)) (by
            rintro (h | ⟨_, h⟩ | ⟨h, _⟩)
            · exact h rfl
            · exact hy h
            · exact no h)]
      · rw [if_neg ha, if_neg (by decide)]
        by_cases ho : o = sOr
        · rw [if_pos ho]
          by_cases hy : y = 0
          · rw [if_pos hy, if_neg (c := (0 : Int) ≠ 0 ∨ (o = sAnd ∧ y = 0) ∨ (o = sOr ∧ y ≠ 0)) (by
              rintro (h | ⟨h, _⟩ | ⟨_, h⟩)
              · exact h rfl
              · exact ha h
              · exact h hy)]
          · rw [if_neg hy, if_pos (.inr (.inr ⟨ho, hy⟩))]
            have hb : (y != 0) = true := by simpa using hy
            rw [hb]
            rfl
        · rw [if_neg ho, if_neg (c := (0 : Int) ≠ 0 ∨ (o = sAnd ∧ y = 0) ∨ (o = sOr ∧ y ≠ 0)) (by
            rintro (h | ⟨h, _⟩ | ⟨h, _⟩)
            · exact h rfl
            · exact ha h
            · exact ho h)]
    · rw [if_neg hf, if_pos (.inl hf)]
      simp [cl, hf]
theorem full_rsnd : ∀ x, rsnd x = true → full x = true := by
  intro x
  induction x with
  | none => intro h; cases h
  | lit n => intro _; rfl
  | ref s => intro _; rfl
  | not x ih => simpa only [rsnd, full] using ih
  | neg x ih => simpa only [rsnd, full] using ih
  | bin o l r ih1 ih2 =>
    simp only [rsnd, full, Bool.and_eq_true]
    rintro ⟨⟨_, a⟩, b⟩
    exact ⟨ih1 a, ih2 b⟩
theorem evl_eq (vs : List S46) (x : Ex) : evl vs x = if fmd x = true then cl (ev vs x) else (0, 1) := rfl
end Go.Proofs.YtdhlbhkpleoicaaDoor.Exp
