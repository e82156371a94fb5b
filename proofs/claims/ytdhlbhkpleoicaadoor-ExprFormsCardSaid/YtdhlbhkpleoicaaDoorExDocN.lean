/- The document's Nodes and deep, over plain trees. -/
import Derived.Test.YtdhlbhkpleoicaaDoorExTot
namespace Go.Proofs.YtdhlbhkpleoicaaDoor.Exp
open Go.RowKit Go.Proofs.YtdhlbhkpleoicaaDoorW.PrintWords Go.Proofs.YtdhlbhkpleoicaaDoorW.PrintLast Go.Proofs.YtdhlbhkpleoicaaDoorW.PrintMore Go.Proofs.YtdhlbhkpleoicaaDoor.PExprEvals
open Frm
set_option linter.unusedVariables false
set_option linter.unusedSimpArgs false
def nd (x : Ex) : Int := min (tot x : Int) 41
theorem tot_pos : ∀ x, 1 ≤ tot x := by intro x; cases x <;> simp [tot]
theorem mn_min (a b : Int) : mn a b = min a b := by first | rfl | (unfold mn; rfl) | (unfold mn; split <;> omega)
theorem mx_max (a b : Int) : mx a b = max a b := by first | rfl | (unfold mx; rfl) | (unfold mx; split <;> omega)
def NodesT (e : Ex) : Prop := ∃ K, ∀ k, K ≤ k → tumbrelref04_Nodes.f k (toN e).f0 (toN e).f1 (toN e).f2 (toN e).f3 = some (nd e)
theorem n0_step (a : S24) (n i : Nat) (h : i < n) (hn : n ≤ 2) (la : a.f3.length = n) (e : Ex) (ha : rd_T24 a.f3 (i : Int) = toN e) (ih : NodesT e) (acc : Int) :
    ∃ K, ∀ k, K ≤ k → tumbrelref04_Nodes.l0 (k + 1) acc (n : Int) (i : Int) a.f0 a.f1 a.f2 a.f3 = tumbrelref04_Nodes.l0 k (wrap64 (acc + nd e)) (n : Int) ((i + 1 : Nat) : Int) a.f0 a.f1 a.f2 a.f3 := by
  have hw : wrap64 ((i : Int) + 1) = ((i + 1 : Nat) : Int) := by unfold wrap64; omega
  obtain ⟨K, hK⟩ := ih
  refine ⟨K, fun k hk => ?_⟩
  rw [tumbrelref04_Nodes.l0, if_pos (by omega), if_pos (by omega), if_pos (by omega), ha, hK k hk, Option.bind_some, hw]
theorem n0_end (a : S24) (n : Nat) (k : Nat) (acc : Int) : tumbrelref04_Nodes.l0 (k + 1) acc (n : Int) (n : Int) a.f0 a.f1 a.f2 a.f3 = some (min acc 41) := by
  rw [tumbrelref04_Nodes.l0, if_neg (by omega), mn_min]
theorem nodes_none (a : S24) (ha : a.f3 = []) : ∃ K, ∀ k, K ≤ k → tumbrelref04_Nodes.f k a.f0 a.f1 a.f2 a.f3 = some 1 := by
  refine ⟨2, fun k hk => ?_⟩
  obtain ⟨k, rfl⟩ : ∃ m, k = m + 2 := ⟨k - 2, by omega⟩
  rw [tumbrelref04_Nodes.f, show (a.f3.length : Int) = ((0 : Nat) : Int) by rw [ha]; rfl]
  exact n0_end a 0 k 1
theorem nodes_one (a : S24) (e : Ex) (ha : a.f3 = [toN e]) (ih : NodesT e) : ∃ K, ∀ k, K ≤ k → tumbrelref04_Nodes.f k a.f0 a.f1 a.f2 a.f3 = some (min (1 + nd e) 41) := by
  obtain ⟨K, hK⟩ := n0_step a 1 0 (by omega) (by omega) (by rw [ha]; rfl) e (by rw [ha]; rfl) ih 1
  refine ⟨K + 5, fun k hk => ?_⟩
  obtain ⟨k, rfl⟩ : ∃ m, k = m + 3 := ⟨k - 3, by omega⟩
  rw [tumbrelref04_Nodes.f, show (a.f3.length : Int) = ((1 : Nat) : Int) by rw [ha]; rfl]
  refine (hK (k + 1) (by omega)).trans ?_
  refine (n0_end a 1 k _).trans ?_
  have h1 := tot_pos e
  rw [show wrap64 (1 + nd e) = 1 + nd e by unfold wrap64 nd; omega]
theorem nodes_two (a : S24) (e e2 : Ex) (ha : a.f3 = [toN e, toN e2]) (ih : NodesT e) (ih2 : NodesT e2) : ∃ K, ∀ k, K ≤ k → tumbrelref04_Nodes.f k a.f0 a.f1 a.f2 a.f3 = some (min (1 + nd e + nd e2) 41) := by
  obtain ⟨K, hK⟩ := n0_step a 2 0 (by omega) (by omega) (by rw [ha]; rfl) e (by rw [ha]; rfl) ih 1
  obtain ⟨K2, hK2⟩ := n0_step a 2 1 (by omega) (by omega) (by rw [ha]; rfl) e2 (by rw [ha]; rfl) ih2 (wrap64 (1 + nd e))
  refine ⟨K + K2 + 6, fun k hk => ?_⟩
  obtain ⟨k, rfl⟩ : ∃ m, k = m + 4 := ⟨k - 4, by omega⟩
  rw [tumbrelref04_Nodes.f, show (a.f3.length : Int) = ((2 : Nat) : Int) by rw [ha]; rfl]
  refine (hK (k + 2) (by omega)).trans ?_
  refine (hK2 (k + 1) (by omega)).trans ?_
  refine (n0_end a 2 k _).trans ?_
  have h1 := tot_pos e
  have h2 := tot_pos e2
  rw [show wrap64 (wrap64 (1 + nd e) + nd e2) = 1 + nd e + nd e2 by unfold wrap64 nd; omega]
theorem nodes_tot : ∀ e, NodesT e := by
  intro e
  induction e with
  | none => exact nodes_none (toN .none) rfl
  | lit n => exact nodes_none (toN (.lit n)) rfl
  | ref s => exact nodes_none (toN (.ref s)) rfl
  | not x ih =>
    obtain ⟨K, hK⟩ := nodes_one (toN (.not x)) x rfl ih
    refine ⟨K, fun k hk => (hK k hk).trans ?_⟩
    congr 1
    simp only [nd, tot]
    omega
  | neg x ih =>
    obtain ⟨K, hK⟩ := nodes_one (toN (.neg x)) x rfl ih
    refine ⟨K, fun k hk => (hK k hk).trans ?_⟩
    congr 1
    simp only [nd, tot]
    omega
  | bin o l r ih1 ih2 =>
    obtain ⟨K, hK⟩ := nodes_two (toN (.bin o l r)) l r rfl ih1 ih2
    refine ⟨K, fun k hk => (hK k hk).trans ?_⟩
    congr 1
    simp only [nd, tot]
    omega
theorem dep_tot : ∀ x, dep x + 1 ≤ tot x := by
  intro x
  induction x <;> simp only [dep, tot] <;> omega
def DeepT (e : Ex) : Prop := ∃ K, ∀ k, K ≤ k → tumbrelref04_deep.f k (toN e).f0 (toN e).f1 (toN e).f2 (toN e).f3 = some ((dep e : Int) + 1)
theorem d0_step (a : S24) (n i : Nat) (h : i < n) (hn : n ≤ 2) (la : a.f3.length = n) (e : Ex) (ha : rd_T24 a.f3 (i : Int) = toN e) (ih : DeepT e) (acc : Int) :
    ∃ K, ∀ k, K ≤ k → tumbrelref04_deep.l0 (k + 1) acc (n : Int) (i : Int) a.f0 a.f1 a.f2 a.f3 = tumbrelref04_deep.l0 k (max acc ((dep e : Int) + 1)) (n : Int) ((i + 1 : Nat) : Int) a.f0 a.f1 a.f2 a.f3 := by
  have hw : wrap64 ((i : Int) + 1) = ((i + 1 : Nat) : Int) := by unfold wrap64; omega
  obtain ⟨K, hK⟩ := ih
  refine ⟨K, fun k hk => ?_⟩
  rw [tumbrelref04_deep.l0, if_pos (by omega), if_pos (by omega), if_pos (by omega), ha, hK k hk, Option.bind_some, hw, mx_max]
theorem d0_end (a : S24) (n : Nat) (k : Nat) (acc : Int) (h0 : 0 ≤ acc) (h1 : acc ≤ 1000) : tumbrelref04_deep.l0 (k + 1) acc (n : Int) (n : Int) a.f0 a.f1 a.f2 a.f3 = some (acc + 1) := by
  rw [tumbrelref04_deep.l0, if_neg (by omega)]
  congr 1
  unfold wrap64
  omega
theorem deep_none (a : S24) (ha : a.f3 = []) : ∃ K, ∀ k, K ≤ k → tumbrelref04_deep.f k a.f0 a.f1 a.f2 a.f3 = some 1 := by
  refine ⟨2, fun k hk => ?_⟩
  obtain ⟨k, rfl⟩ : ∃ m, k = m + 2 := ⟨k - 2, by omega⟩
  rw [tumbrelref04_deep.f, show (a.f3.length : Int) = ((0 : Nat) : Int) by rw [ha]; rfl]
  exact d0_end a 0 k 0 (by omega) (by omega)
theorem deep_one (a : S24) (e : Ex) (hd : dep e ≤ 100) (ha : a.f3 = [toN e]) (ih : DeepT e) : ∃ K, ∀ k, K ≤ k → tumbrelref04_deep.f k a.f0 a.f1 a.f2 a.f3 = some ((dep e : Int) + 1 + 1) := by
  obtain ⟨K, hK⟩ := d0_step a 1 0 (by omega) (by omega) (by rw [ha]; rfl) e (by rw [ha]; rfl) ih 0
  refine ⟨K + 5, fun k hk => ?_⟩
  obtain ⟨k, rfl⟩ : ∃ m, k = m + 3 := ⟨k - 3, by omega⟩
  rw [tumbrelref04_deep.f, show (a.f3.length : Int) = ((1 : Nat) : Int) by rw [ha]; rfl]
  refine (hK (k + 1) (by omega)).trans ?_
  refine (d0_end a 1 k _ (by omega) (by omega)).trans ?_
  congr 1
  first | done | omega
theorem deep_two (a : S24) (e e2 : Ex) (hd : dep e ≤ 100) (hd2 : dep e2 ≤ 100) (ha : a.f3 = [toN e, toN e2]) (ih : DeepT e) (ih2 : DeepT e2) : ∃ K, ∀ k, K ≤ k → tumbrelref04_deep.f k a.f0 a.f1 a.f2 a.f3 = some (((max (dep e) (dep e2) : Nat) : Int) + 1 + 1) := by
  obtain ⟨K, hK⟩ := d0_step a 2 0 (by omega) (by omega) (by rw [ha]; rfl) e (by rw [ha]; rfl) ih 0
  obtain ⟨K2, hK2⟩ := d0_step a 2 1 (by omega) (by omega) (by rw [ha]; rfl) e2 (by rw [ha]; rfl) ih2 (max 0 ((dep e : Int) + 1))
  refine ⟨K + K2 + 6, fun k hk => ?_⟩
  obtain ⟨k, rfl⟩ : ∃ m, k = m + 4 := ⟨k - 4, by omega⟩
  rw [tumbrelref04_deep.f, show (a.f3.length : Int) = ((2 : Nat) : Int) by rw [ha]; rfl]
  refine (hK (k + 2) (by omega)).trans ?_
  refine (hK2 (k + 1) (by omega)).trans ?_
  refine (d0_end a 2 k _ (by omega) (by omega)).trans ?_
  congr 1
  omega
theorem deep_tot : ∀ e, tot e ≤ 40 → DeepT e := by
  intro e
  induction e with
  | none => intro _; exact deep_none (toN .none) rfl
  | lit n => intro _; exact deep_none (toN (.lit n)) rfl
  | ref s => intro _; exact deep_none (toN (.ref s)) rfl
  | not x ih =>
    intro h
    simp only [tot] at h
    have hd := dep_tot x
    obtain ⟨K, hK⟩ := deep_one (toN (.not x)) x (by omega) rfl (ih (by omega))
    refine ⟨K, fun k hk => (hK k hk).trans ?_⟩
    congr 1
  | neg x ih =>
    intro h
    simp only [tot] at h
    have hd := dep_tot x
    obtain ⟨K, hK⟩ := deep_one (toN (.neg x)) x (by omega) rfl (ih (by omega))
    refine ⟨K, fun k hk => (hK k hk).trans ?_⟩
    congr 1
  | bin o l r ih1 ih2 =>
    intro h
    simp only [tot] at h
    have hd := dep_tot l
    have hd2 := dep_tot r
    obtain ⟨K, hK⟩ := deep_two (toN (.bin o l r)) l r (by omega) (by omega) rfl (ih1 (by omega)) (ih2 (by omega))
    refine ⟨K, fun k hk => (hK k hk).trans ?_⟩
    congr 1
theorem op_at (s : ByteArray) (l : List UInt8) (c : ByteArray) (h : c.toList = l) : s.toList = l ↔ s = c := by rw [← h]; exact bytes_iff _ _
theorem op_plus (s : ByteArray) : s.toList = ([43] : List UInt8) ↔ s = sPlus := op_at s _ sPlus (by decide +kernel)
theorem op_minus (s : ByteArray) : s.toList = ([45] : List UInt8) ↔ s = sMinus := op_at s _ sMinus (by decide +kernel)
theorem op_mul (s : ByteArray) : s.toList = ([42] : List UInt8) ↔ s = sMul := op_at s _ sMul (by decide +kernel)
theorem op_less (s : ByteArray) : s.toList = ([60] : List UInt8) ↔ s = sLess := op_at s _ sLess (by decide +kernel)
theorem op_leq (s : ByteArray) : s.toList = ([60, 61] : List UInt8) ↔ s = sLeq := op_at s _ sLeq (by decide +kernel)
theorem op_eq (s : ByteArray) : s.toList = ([61, 61] : List UInt8) ↔ s = sEq := op_at s _ sEq (by decide +kernel)
theorem op_ne (s : ByteArray) : s.toList = ([33, 61] : List UInt8) ↔ s = sNe := op_at s _ sNe (by decide +kernel)
theorem op_and (s : ByteArray) : s.toList = ([38, 38] : List UInt8) ↔ s = sAnd := op_at s _ sAnd (by decide +kernel)
theorem op_or (s : ByteArray) : s.toList = ([124, 124] : List UInt8) ↔ s = sOr := op_at s _ sOr (by decide +kernel)
end Go.Proofs.YtdhlbhkpleoicaaDoor.Exp
