/- The document's Clean and Same, over plain trees. -/
import Derived.Test.YtdhlbhkpleoicaaExSmall
namespace Go.Proofs.Ytdhlbhkpleoicaa.Exp
open Go.RowKit Go.Proofs.YtdhlbhkpleoicaaW.PrintWords Go.Proofs.YtdhlbhkpleoicaaW.PrintLast Go.Proofs.YtdhlbhkpleoicaaW.PrintMore Go.Proofs.Ytdhlbhkpleoicaa.PExprSame
open Frm
set_option linter.unusedVariables false
set_option linter.unusedSimpArgs false
def eB : ByteArray := ⟨#[]⟩
/-- A clean node. -/
def toN : Ex → S24
  | .none => ⟨0, 0, eB, []⟩
  | .lit n => ⟨1, n, eB, []⟩
  | .ref s => ⟨2, 0, s, []⟩
  | .not x => ⟨3, 0, eB, [toN x]⟩
  | .neg x => ⟨4, 0, eB, [toN x]⟩
  | .bin op l r => ⟨5, 0, op, [toN l, toN r]⟩
def CleanT (x : S24) (t : S24) : Prop := ∃ K, ∀ k, K ≤ k → tumbrelref04_Clean.f k x.f0 x.f1 x.f2 x.f3 = some (t.f0, t.f1, t.f2, t.f3)
theorem l0_step (x : S24) (ih : ∀ y ∈ x.f3, CleanT y (toN (theirs y))) (n i : Nat) (h : i < n) (hn : n ≤ 2) (o0 o1 : Int) (o2 : ByteArray) (acc : List S24) (ha : acc.length ≤ 10) :
    ∃ K, ∀ k, K ≤ k → tumbrelref04_Clean.l0 (k + 1) (n : Int) (i : Int) x.f0 x.f1 x.f2 x.f3 o0 o1 o2 acc = tumbrelref04_Clean.l0 k (n : Int) ((i + 1 : Nat) : Int) x.f0 x.f1 x.f2 x.f3 o0 o1 o2 (acc ++ [toN (part x i)]) := by
  have hw : wrap64 ((i : Int) + 1) = ((i + 1 : Nat) : Int) := by unfold wrap64; omega
  by_cases hlt : i < x.f3.length
  · have hrd : rd_T24 x.f3 (i : Int) = x.f3[i] := by simp [rd_T24, List.getD_eq_getElem?_getD, hlt]
    have hp : part x i = theirs x.f3[i] := by unfold part; rw [dif_pos hlt]
    obtain ⟨K, hK⟩ := ih _ (List.getElem_mem hlt)
    refine ⟨K, fun k hk => ?_⟩
    rw [tumbrelref04_Clean.l0, if_pos (by omega), if_pos (by omega), if_pos (by omega), hrd, hK k hk, Option.bind_some, if_pos (by omega), hw, hp]
    generalize toN (theirs x.f3[i]) = t
    cases t
    rfl
  · have hp : part x i = .none := by unfold part; rw [dif_neg hlt]
    refine ⟨0, fun k hk => ?_⟩
    rw [tumbrelref04_Clean.l0, if_pos (by omega), if_neg (by omega), if_pos (by omega), hw, hp]
    rfl
theorem l0_end (x : S24) (n : Nat) (o0 o1 : Int) (o2 : ByteArray) (acc : List S24) (k : Nat) : tumbrelref04_Clean.l0 (k + 1) (n : Int) (n : Int) x.f0 x.f1 x.f2 x.f3 o0 o1 o2 acc = some (o0, o1, o2, acc) := by
  rw [tumbrelref04_Clean.l0, if_neg (by omega)]
theorem clean_step (x : S24) (ih : ∀ y ∈ x.f3, CleanT y (toN (theirs y))) : CleanT x (toN (theirs x)) := by
  rw [theirs_eq]
  unfold CleanT
  by_cases k1 : x.f0 = 1
  · refine ⟨1, fun k hk => ?_⟩
    obtain ⟨k, rfl⟩ : ∃ m, k = m + 1 := ⟨k - 1, by omega⟩
    rw [tumbrelref04_Clean.f, if_pos k1, if_pos k1]
    rfl
  · by_cases k2 : x.f0 = 2
    · refine ⟨1, fun k hk => ?_⟩
      obtain ⟨k, rfl⟩ : ∃ m, k = m + 1 := ⟨k - 1, by omega⟩
      rw [tumbrelref04_Clean.f, if_neg k1, if_pos k2, if_neg k1, if_pos k2]
      rfl
    · by_cases k3 : x.f0 = 3
      · obtain ⟨K, hK⟩ := l0_step x ih 1 0 (by omega) (by omega) x.f0 0 eB [] (by simp)
        refine ⟨K + 5, fun k hk => ?_⟩
        obtain ⟨k, rfl⟩ : ∃ m, k = m + 5 := ⟨k - 5, by omega⟩
        rw [tumbrelref04_Clean.f, if_neg k1, if_neg k2, if_pos k3, tumbrelref04_Clean.j0, if_pos (by simp [k3]), tumbrelref04_Clean.j1]
        rw [if_neg k1, if_neg k2, if_pos k3]
        refine (hK (k + 1) (by omega)).trans ?_
        refine (l0_end x 1 x.f0 0 eB _ k).trans ?_
        rw [k3]
        rfl
      · by_cases k4 : x.f0 = 4
        · obtain ⟨K, hK⟩ := l0_step x ih 1 0 (by omega) (by omega) x.f0 0 eB [] (by simp)
          refine ⟨K + 5, fun k hk => ?_⟩
          obtain ⟨k, rfl⟩ : ∃ m, k = m + 5 := ⟨k - 5, by omega⟩
          rw [tumbrelref04_Clean.f, if_neg k1, if_neg k2, if_neg k3, tumbrelref04_Clean.j0, if_pos (by simp [k4]), tumbrelref04_Clean.j1]
          rw [if_neg k1, if_neg k2, if_neg k3, if_pos k4]
          refine (hK (k + 1) (by omega)).trans ?_
          refine (l0_end x 1 x.f0 0 eB _ k).trans ?_
          rw [k4]
          rfl
        · have hb : ¬ ((x.f0 == 4) = true) := by simpa using k4
          by_cases k5 : x.f0 = 5
          · obtain ⟨K, hK⟩ := l0_step x ih 2 0 (by omega) (by omega) 5 0 x.f2 [] (by simp)
            obtain ⟨K2, hK2⟩ := l0_step x ih 2 1 (by omega) (by omega) 5 0 x.f2 ([] ++ [toN (part x 0)]) (by simp)
            refine ⟨K + K2 + 6, fun k hk => ?_⟩
            obtain ⟨k, rfl⟩ : ∃ m, k = m + 6 := ⟨k - 6, by omega⟩
            rw [tumbrelref04_Clean.f, if_neg k1, if_neg k2, if_neg k3, tumbrelref04_Clean.j0, if_neg hb, if_pos k5, tumbrelref04_Clean.j1]
            rw [if_neg k1, if_neg k2, if_neg k3, if_neg k4, if_pos k5]
            refine (hK (k + 2) (by omega)).trans ?_
            refine (hK2 (k + 1) (by omega)).trans ?_
            exact l0_end x 2 5 0 x.f2 _ k
          · refine ⟨5, fun k hk => ?_⟩
            obtain ⟨k, rfl⟩ : ∃ m, k = m + 4 := ⟨k - 4, by omega⟩
            rw [tumbrelref04_Clean.f, if_neg k1, if_neg k2, if_neg k3, tumbrelref04_Clean.j0, if_neg hb, if_neg k5, tumbrelref04_Clean.j1]
            rw [if_neg k1, if_neg k2, if_neg k3, if_neg k4, if_neg k5]
            exact l0_end x 0 0 0 eB [] k
theorem clean_tot : ∀ (m : Nat) (x : S24), SizeOf.sizeOf x < m → CleanT x (toN (theirs x))
  | 0, x, h => by omega
  | m + 1, x, h => clean_step x (fun y hy => clean_tot m y (by have := mem_size hy; omega))
theorem Clean_calls (x : S24) (A : Option Addr) (c : Nat) (w : World) (hC : Kd.C k24 w A x.f3.length x.f3) (hc : x.f3.length ≤ c) :
    Calls Try.prog 15 #[.agg #[.int .i64 x.f0, .int .i64 x.f1, .string x.f2, .slice A x.f3.length c]] w fun e w' => ∃ A' c', e = .returned (.agg #[.int .i64 (toN (theirs x)).f0, .int .i64 (toN (theirs x)).f1, .string (toN (theirs x)).f2, .slice A' (toN (theirs x)).f3.length c']) ∧
      Kd.C k24 w' A' (toN (theirs x)).f3.length (toN (theirs x)).f3 ∧ (toN (theirs x)).f3.length ≤ c' ∧ Below w.heap.size w w' := by
  obtain ⟨K, hK⟩ := clean_tot _ x (Nat.lt_succ_self _)
  refine (tumbrelref04_Clean.calls K x.f0 x.f1 x.f2 A c x.f3 _ _ _ _ w hC hc (hK K (Nat.le_refl _))).mono ?_
  rintro e w' ⟨v, rfl, hR, hb⟩
  obtain ⟨A', c', rfl, hc', hC'⟩ := Kd.R_reads hR
  exact ⟨A', c', rfl, hC', hc', hb⟩
/-- Are two expressions alike? -/
def sameE : Ex → Ex → Bool
  | .none, .none => true
  | .lit n, .lit m => decide (n = m)
  | .ref s, .ref t => decide (s = t)
  | .not x, .not y => sameE x y
  | .neg x, .neg y => sameE x y
  | .bin o l r, .bin o' l' r' => decide (o = o') && sameE l l' && sameE r r'
  | _, _ => false
theorem sameE_refl : ∀ x, sameE x x = true
  | .none => rfl
  | .lit n => by simp [sameE]
  | .ref s => by simp [sameE]
  | .not x => by simp [sameE, sameE_refl x]
  | .neg x => by simp [sameE, sameE_refl x]
  | .bin o l r => by simp [sameE, sameE_refl l, sameE_refl r]
def SameT (e f : Ex) : Prop := ∃ K, ∀ k, K ≤ k → tumbrelref04_Same.f k (toN e).f0 (toN e).f1 (toN e).f2 (toN e).f3 (toN f).f0 (toN f).f1 (toN f).f2 (toN f).f3 = some (sameE e f)
theorem same_kinds {e f : Ex} (h : (toN e).f0 ≠ (toN f).f0) (hs : sameE e f = false) : SameT e f := by
  refine ⟨2, fun k hk => ?_⟩
  obtain ⟨k, rfl⟩ : ∃ m, k = m + 2 := ⟨k - 2, by omega⟩
  rw [tumbrelref04_Same.f, if_neg h, tumbrelref04_Same.j0, if_pos rfl, hs]
theorem s0_step (a b : S24) (n i : Nat) (h : i < n) (hn : n ≤ 2) (la : a.f3.length = n) (lb : b.f3.length = n) (e f : Ex) (ha : rd_T24 a.f3 (i : Int) = toN e) (hb : rd_T24 b.f3 (i : Int) = toN f) (ih : SameT e f) :
    ∃ K, ∀ k, K ≤ k → tumbrelref04_Same.l0 (k + 1) (n : Int) (i : Int) a.f0 a.f1 a.f2 a.f3 b.f0 b.f1 b.f2 b.f3 = if sameE e f = true then tumbrelref04_Same.l0 k (n : Int) ((i + 1 : Nat) : Int) a.f0 a.f1 a.f2 a.f3 b.f0 b.f1 b.f2 b.f3 else some false := by
  have hw : wrap64 ((i : Int) + 1) = ((i + 1 : Nat) : Int) := by unfold wrap64; omega
  obtain ⟨K, hK⟩ := ih
  refine ⟨K, fun k hk => ?_⟩
  rw [tumbrelref04_Same.l0, if_pos (by omega), if_pos (by omega), if_pos (by omega), if_pos (by omega), ha, hb, hK k hk, Option.bind_some, hw]
theorem s0_end (a b : S24) (n : Nat) (k : Nat) : tumbrelref04_Same.l0 (k + 1) (n : Int) (n : Int) a.f0 a.f1 a.f2 a.f3 b.f0 b.f1 b.f2 b.f3 = some true := by
  rw [tumbrelref04_Same.l0, if_neg (by omega)]
theorem same_one (a b : S24) (e f : Ex) (h0 : a.f0 = b.f0) (h1 : a.f1 = b.f1) (h2 : a.f2 = b.f2) (ha : a.f3 = [toN e]) (hb : b.f3 = [toN f]) (ih : SameT e f) : ∃ K, ∀ k, K ≤ k → tumbrelref04_Same.f k a.f0 a.f1 a.f2 a.f3 b.f0 b.f1 b.f2 b.f3 = some (sameE e f) := by
  obtain ⟨K, hK⟩ := s0_step a b 1 0 (by omega) (by omega) (by rw [ha]; rfl) (by rw [hb]; rfl) e f (by rw [ha]; rfl) (by rw [hb]; rfl) ih
  refine ⟨K + 5, fun k hk => ?_⟩
  obtain ⟨k, rfl⟩ : ∃ m, k = m + 4 := ⟨k - 4, by omega⟩
  rw [tumbrelref04_Same.f, if_pos h0, if_pos h1, if_pos (by rw [h2]), tumbrelref04_Same.j0, if_neg (by rw [ha, hb]; simp)]
  rw [show (a.f3.length : Int) = ((1 : Nat) : Int) by rw [ha]; rfl]
  refine (hK (k + 1) (by omega)).trans ?_
  cases hs : sameE e f with
  | true => exact (if_pos rfl).trans (s0_end a b 1 k)
  | false => rfl
theorem same_two (a b : S24) (e f e2 f2 : Ex) (h0 : a.f0 = b.f0) (h1 : a.f1 = b.f1) (h2 : a.f2 = b.f2) (ha : a.f3 = [toN e, toN e2]) (hb : b.f3 = [toN f, toN f2]) (ih : SameT e f) (ih2 : SameT e2 f2) : ∃ K, ∀ k, K ≤ k → tumbrelref04_Same.f k a.f0 a.f1 a.f2 a.f3 b.f0 b.f1 b.f2 b.f3 = some (sameE e f && sameE e2 f2) := by
  obtain ⟨K, hK⟩ := s0_step a b 2 0 (by omega) (by omega) (by rw [ha]; rfl) (by rw [hb]; rfl) e f (by rw [ha]; rfl) (by rw [hb]; rfl) ih
  obtain ⟨K2, hK2⟩ := s0_step a b 2 1 (by omega) (by omega) (by rw [ha]; rfl) (by rw [hb]; rfl) e2 f2 (by rw [ha]; rfl) (by rw [hb]; rfl) ih2
  refine ⟨K + K2 + 6, fun k hk => ?_⟩
  obtain ⟨k, rfl⟩ : ∃ m, k = m + 5 := ⟨k - 5, by omega⟩
  rw [tumbrelref04_Same.f, if_pos h0, if_pos h1, if_pos (by rw [h2]), tumbrelref04_Same.j0, if_neg (by rw [ha, hb]; simp)]
  rw [show (a.f3.length : Int) = ((2 : Nat) : Int) by rw [ha]; rfl]
  refine (hK (k + 2) (by omega)).trans ?_
  cases hs : sameE e f with
  | true =>
    refine (if_pos rfl).trans ((hK2 (k + 1) (by omega)).trans ?_)
    cases hs2 : sameE e2 f2 with
    | true => exact (if_pos rfl).trans (s0_end a b 2 k)
    | false => rfl
  | false => rfl
theorem same_none (a b : S24) (h0 : a.f0 = b.f0) (ha : a.f3 = []) (hb : b.f3 = []) : ∃ K, ∀ k, K ≤ k → tumbrelref04_Same.f k a.f0 a.f1 a.f2 a.f3 b.f0 b.f1 b.f2 b.f3 = some (decide (a.f1 = b.f1 ∧ a.f2 = b.f2)) := by
  refine ⟨3, fun k hk => ?_⟩
  obtain ⟨k, rfl⟩ : ∃ m, k = m + 3 := ⟨k - 3, by omega⟩
  by_cases h1 : a.f1 = b.f1
  · by_cases h2 : a.f2 = b.f2
    · rw [tumbrelref04_Same.f, if_pos h0, if_pos h1, if_pos (by rw [h2]), tumbrelref04_Same.j0, if_neg (by rw [ha, hb]; simp), decide_eq_true ⟨h1, h2⟩]
      rw [show (a.f3.length : Int) = ((0 : Nat) : Int) by rw [ha]; rfl]
      exact s0_end a b 0 k
    · rw [tumbrelref04_Same.f, if_pos h0, if_pos h1, if_neg (fun h => h2 ((bytes_iff _ _).1 h)), tumbrelref04_Same.j0, if_pos rfl, decide_eq_false (fun h => h2 h.2)]
  · rw [tumbrelref04_Same.f, if_pos h0, if_neg h1, tumbrelref04_Same.j0, if_pos rfl, decide_eq_false (fun h => h1 h.1)]
theorem same_op (o o' : ByteArray) (l r l' r' : Ex) (h : o ≠ o') : SameT (.bin o l r) (.bin o' l' r') := by
  refine ⟨2, fun k hk => ?_⟩
  obtain ⟨k, rfl⟩ : ∃ m, k = m + 2 := ⟨k - 2, by omega⟩
  have h0 : (toN (.bin o l r)).f0 = (toN (.bin o' l' r')).f0 := rfl
  have h1 : (toN (.bin o l r)).f1 = (toN (.bin o' l' r')).f1 := rfl
  have h2 : ¬ (toN (.bin o l r)).f2.toList = (toN (.bin o' l' r')).f2.toList := fun e => h ((bytes_iff _ _).1 e)
  rw [tumbrelref04_Same.f, if_pos h0, if_pos h1, if_neg h2, tumbrelref04_Same.j0, if_pos rfl]
  simp [sameE, h]
theorem same_tot : ∀ (e f : Ex), SameT e f := by
  intro e
  induction e with
  | none =>
    intro f
    cases f
    case none => exact same_none _ _ rfl rfl rfl
    all_goals exact same_kinds (by simp [toN]) rfl
  | lit n =>
    intro f
    cases f
    case lit m =>
      obtain ⟨K, hK⟩ := same_none (toN (.lit n)) (toN (.lit m)) rfl rfl rfl
      refine ⟨K, fun k hk => (hK k hk).trans ?_⟩
      simp [toN, sameE]
    all_goals exact same_kinds (by simp [toN]) rfl
  | ref s =>
    intro f
    cases f
    case ref t =>
      obtain ⟨K, hK⟩ := same_none (toN (.ref s)) (toN (.ref t)) rfl rfl rfl
      refine ⟨K, fun k hk => (hK k hk).trans ?_⟩
      simp [toN, sameE]
    all_goals exact same_kinds (by simp [toN]) rfl
  | not x ih =>
    intro f
    cases f
    case not y => exact same_one _ _ x y rfl rfl rfl rfl rfl (ih y)
    all_goals exact same_kinds (by simp [toN]) rfl
  | neg x ih =>
    intro f
    cases f
    case neg y => exact same_one _ _ x y rfl rfl rfl rfl rfl (ih y)
    all_goals exact same_kinds (by simp [toN]) rfl
  | bin o l r ih1 ih2 =>
    intro f
    cases f
    case bin o' l' r' =>
      by_cases h : o = o'
      · subst h
        obtain ⟨K, hK⟩ := same_two (toN (.bin o l r)) (toN (.bin o l' r')) l l' r r' rfl rfl rfl rfl rfl (ih1 l') (ih2 r')
        refine ⟨K, fun k hk => (hK k hk).trans ?_⟩
        simp [sameE]
      · exact same_op o o' l r l' r' h
    all_goals exact same_kinds (by simp [toN]) rfl
theorem rSame_calls (e f : Ex) (A B : Option Addr) (c d : Nat) (w : World) (hA : Kd.C k24 w A (toN e).f3.length (toN e).f3) (hc : (toN e).f3.length ≤ c) (hB : Kd.C k24 w B (toN f).f3.length (toN f).f3) (hd : (toN f).f3.length ≤ d) :
    Calls Try.prog 14 #[.agg #[.int .i64 (toN e).f0, .int .i64 (toN e).f1, .string (toN e).f2, .slice A (toN e).f3.length c], .agg #[.int .i64 (toN f).f0, .int .i64 (toN f).f1, .string (toN f).f2, .slice B (toN f).f3.length d]] w fun e' w' => e' = .returned (.bool (sameE e f)) ∧ Below w.heap.size w w' := by
  obtain ⟨K, hK⟩ := same_tot e f
  exact tumbrelref04_Same.calls K _ _ _ A c _ _ _ _ B d _ _ w hA hc hB hd (hK K (Nat.le_refl _))
end Go.Proofs.Ytdhlbhkpleoicaa.Exp
