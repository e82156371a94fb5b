/- The document's Clean, over plain trees. -/
import Derived.Test.YtdhlbhkpleoicaaDoorExSmall
namespace Go.Proofs.YtdhlbhkpleoicaaDoor.Exp
open Go.RowKit Go.Proofs.YtdhlbhkpleoicaaDoorW.PrintWords Go.Proofs.YtdhlbhkpleoicaaDoorW.PrintLast Go.Proofs.YtdhlbhkpleoicaaDoorW.PrintMore Go.Proofs.YtdhlbhkpleoicaaDoor.PExprEvals
open Frm
set_option linter.unusedVariables false
set_option linter.unusedSimpArgs false
def eB : ByteArray := ⟨#[]⟩
/-- A clean node. -/
def toN : Ex → S24
  | .none => ⟨0, 0, eB, []⟩
  | .lit n => ⟨1, n, eB, []⟩
  | .ref s => ⟨2, 0, s, []⟩
  | .not x => ⟨3, 0, eB, [toN x]⟩
  | .neg x => ⟨4, 0, eB, [toN x]⟩
  | .bin op l r => ⟨5, 0, op, [toN l, toN r]⟩
def CleanT (x : S24) (t : S24) : Prop := ∃ K, ∀ k, K ≤ k → tumbrelref04_Clean.f k x.f0 x.f1 x.f2 x.f3 = some (t.f0, t.f1, t.f2, t.f3)
theorem l0_step (x : S24) (ih : ∀ y ∈ x.f3, CleanT y (toN (theirs y))) (n i : Nat) (h : i < n) (hn : n ≤ 2) (o0 o1 : Int) (o2 : ByteArray) (acc : List S24) (ha : acc.length ≤ 10) :
    ∃ K, ∀ k, K ≤ k → tumbrelref04_Clean.l0 (k + 1) (n : Int) (i : Int) x.f0 x.f1 x.f2 x.f3 o0 o1 o2 acc = tumbrelref04_Clean.l0 k (n : Int) ((i + 1 : Nat) : Int) x.f0 x.f1 x.f2 x.f3 o0 o1 o2 (acc ++ [toN (part x i)]) := by
  have hw : wrap64 ((i : Int) + 1) = ((i + 1 : Nat) : Int) := by unfold wrap64; omega
  by_cases hlt : i < x.f3.length
  · have hrd : rd_T24 x.f3 (i : Int) = x.f3[i] := by simp [rd_T24, List.getD_eq_getElem?_getD, hlt]
    have hp : part x i = theirs x.f3[i] := by unfold part; rw [dif_pos hlt]
    obtain ⟨K, hK⟩ := ih _ (List.getElem_mem hlt)
    refine ⟨K, fun k hk => ?_⟩
    rw [tumbrelref04_Clean.l0, if_pos (by omega), if_pos (by omega), if_pos (by omega), hrd, hK k hk, Option.bind_some, if_pos (by omega), hw, hp]
    generalize toN (theirs x.f3[i]) = t
    cases t
    rfl
  · have hp : part x i = .none := by unfold part; rw [dif_neg hlt]
    refine ⟨0, fun k hk => ?_⟩
    rw [tumbrelref04_Clean.l0, if_pos (by omega), if_neg (by omega), if_pos (by omega), hw, hp]
    rfl
theorem l0_end (x : S24) (n : Nat) (o0 o1 : Int) (o2 : ByteArray) (acc : List S24) (k : Nat) : tumbrelref04_Clean.l0 (k + 1) (n : Int) (n : Int) x.f0 x.f1 x.f2 x.f3 o0 o1 o2 acc = some (o0, o1, o2, acc) := by
  rw [tumbrelref04_Clean.l0, if_neg (by omega)]
theorem clean_step (x : S24) (ih : ∀ y ∈ x.f3, CleanT y (toN (theirs y))) : CleanT x (toN (theirs x)) := by
  rw [theirs_eq]
  unfold CleanT
  by_cases k1 : x.f0 = 1
  · refine ⟨1, fun k hk => ?_⟩
    obtain ⟨k, rfl⟩ : ∃ m, k = m + 1 := ⟨k - 1, by omega⟩
    rw [tumbrelref04_Clean.f, if_pos k1, if_pos k1]
    rfl
  · by_cases k2 : x.f0 = 2
    · refine ⟨1, fun k hk => ?_⟩
      obtain ⟨k, rfl⟩ : ∃ m, k = m + 1 := ⟨k - 1, by omega⟩
      rw [tumbrelref04_Clean.f, if_neg k1, if_pos k2, if_neg k1, if_pos k2]
      rfl
    · by_cases k3 : x.f0 = 3
      · obtain ⟨K, hK⟩ := l0_step x ih 1 0 (by omega) (by omega) x.f0 0 eB [] (by simp)
        refine ⟨K + 5, fun k hk => ?_⟩
        obtain ⟨k, rfl⟩ : ∃ m, k = m + 5 := ⟨k - 5, by omega⟩
        rw [tumbrelref04_Clean.f, if_neg k1, if_neg k2, if_pos k3, tumbrelref04_Clean.j0, if_pos (by simp [k3]), tumbrelref04_Clean.j1]
        rw [if_neg k1, if_neg k2, if_pos k3]
        refine (hK (k + 1) (by omega)).trans ?_
        refine (l0_end x 1 x.f0 0 eB _ k).trans ?_
        rw [k3]
        rfl
      · by_cases k4 : x.f0 = 4
        · obtain ⟨K, hK⟩ := l0_step x ih 1 0 (by omega) (by omega) x.f0 0 eB [] (by simp)
          refine ⟨K + 5, fun k hk => ?_⟩
          obtain ⟨k, rfl⟩ : ∃ m, k = m + 5 := ⟨k - 5, by omega⟩
          rw [tumbrelref04_Clean.f, if_neg k1, if_neg k2, if_neg k3, tumbrelref04_Clean.j0, if_pos (by simp [k4]), tumbrelref04_Clean.j1]
          rw [if_neg k1, if_neg k2, if_neg k3, if_pos k4]
          refine (hK (k + 1) (by omega)).trans ?_
          refine (l0_end x 1 x.f0 0 eB _ k).trans ?_
          rw [k4]
          rfl
        · have hb : ¬ ((x.f0 == 4) = true) := by simpa using k4
          by_cases k5 : x.f0 = 5
          · obtain ⟨K, hK⟩ := l0_step x ih 2 0 (by omega) (by omega) 5 0 x.f2 [] (by simp)
            obtain ⟨K2, hK2⟩ := l0_step x ih 2 1 (by omega) (by omega) 5 0 x.f2 ([] ++ [toN (part x 0)]) (by simp)
            refine ⟨K + K2 + 6, fun k hk => ?_⟩
            obtain ⟨k, rfl⟩ : ∃ m, k = m + 6 := ⟨k - 6, by omega⟩
            rw [tumbrelref04_Clean.f, if_neg k1, if_neg k2, if_neg k3, tumbrelref04_Clean.j0, if_neg hb, if_pos k5, tumbrelref04_Clean.j1]
            rw [if_neg k1, if_neg k2, if_neg k3, if_neg k4, if_pos k5]
            refine (hK (k + 2) (by omega)).trans ?_
            refine (hK2 (k + 1) (by omega)).trans ?_
            exact l0_end x 2 5 0 x.f2 _ k
          · refine ⟨5, fun k hk => ?_⟩
            obtain ⟨k, rfl⟩ : ∃ m, k = m + 4 := ⟨k - 4, by omega⟩
            rw [tumbrelref04_Clean.f, if_neg k1, if_neg k2, if_neg k3, tumbrelref04_Clean.j0, if_neg hb, if_neg k5, tumbrelref04_Clean.j1]
            rw [if_neg k1, if_neg k2, if_neg k3, if_neg k4, if_neg k5]
            exact l0_end x 0 0 0 eB [] k
theorem clean_tot : ∀ (m : Nat) (x : S24), SizeOf.sizeOf x < m → CleanT x (toN (theirs x))
  | 0, x, h => by omega
  | m + 1, x, h => clean_step x (fun y hy => clean_tot m y (by have := mem_size hy; omega))
theorem Clean_calls (x : S24) (A : Option Addr) (c : Nat) (w : World) (hC : Kd.C k24 w A x.f3.length x.f3) (hc : x.f3.length ≤ c) :
    Calls Tryd.prog 12 #[.agg #[.int .i64 x.f0, .int .i64 x.f1, .string x.f2, .slice A x.f3.length c]] w fun e w' => ∃ A' c', e = .returned (.agg #[.int .i64 (toN (theirs x)).f0, .int .i64 (toN (theirs x)).f1, .string (toN (theirs x)).f2, .slice A' (toN (theirs x)).f3.length c']) ∧
      Kd.C k24 w' A' (toN (theirs x)).f3.length (toN (theirs x)).f3 ∧ (toN (theirs x)).f3.length ≤ c' ∧ Below w.heap.size w w' := by
  obtain ⟨K, hK⟩ := clean_tot _ x (Nat.lt_succ_self _)
  refine (tumbrelref04_Clean.calls K x.f0 x.f1 x.f2 A c x.f3 _ _ _ _ w hC hc (hK K (Nat.le_refl _))).mono ?_
  rintro e w' ⟨v, rfl, hR, hb⟩
  obtain ⟨A', c', rfl, hc', hC'⟩ := Kd.R_reads hR
  exact ⟨A', c', rfl, hC', hc', hb⟩
end Go.Proofs.YtdhlbhkpleoicaaDoor.Exp
