/- The document's entry behind a request, walked. -/
import Derived.Test.YtdglbiafpofeeaaRefPure
import Derived.Deep.RegionHeld3
import Derived.Outline
namespace Go.Proofs.Ytdglbiafpofeeaa.Led
open Go.RowKit Go.Proofs.YtdglbiafpofeeaaW.PrintWords Go.Proofs.YtdglbiafpofeeaaW.PrintLast Go.Proofs.YtdglbiafpofeeaaW.PrintMore Go.Proofs.Ytdglbiafpofeeaa.PLedgerPlays
set_option linter.unusedVariables false
set_option linter.unusedSimpArgs false
def entV (x : S100) : Value := .agg #[.int .i64 x.f0, .int .i64 x.f1, .bool x.f2, .bool x.f3, .int .i64 x.f4, .int .i64 x.f5, .bool x.f6, .bool x.f7]
def entA (x : S100) : Array Value := #[.int .i64 x.f0, .int .i64 x.f1, .bool x.f2, .bool x.f3, .int .i64 x.f4, .int .i64 x.f5, .bool x.f6, .bool x.f7]
theorem ent_cells {W : World} {g : Nat} {x : S100} (h : W.heap[g]? = some (.cells (entA x) 100 (0, 0))) :
    W.cell? ⟨g, 0, none⟩ = some (.int .i64 x.f0) ∧ W.cell? ⟨g, 1, none⟩ = some (.int .i64 x.f1) ∧ W.cell? ⟨g, 2, none⟩ = some (.bool x.f2) ∧ W.cell? ⟨g, 3, none⟩ = some (.bool x.f3) ∧ W.cell? ⟨g, 4, none⟩ = some (.int .i64 x.f4) ∧ W.cell? ⟨g, 5, none⟩ = some (.int .i64 x.f5) ∧ W.cell? ⟨g, 6, none⟩ = some (.bool x.f6) ∧ W.cell? ⟨g, 7, none⟩ = some (.bool x.f7) :=
  ⟨(blk_cell h 0).trans rfl, (blk_cell h 1).trans rfl, (blk_cell h 2).trans rfl, (blk_cell h 3).trans rfl, (blk_cell h 4).trans rfl, (blk_cell h 5).trans rfl, (blk_cell h 6).trans rfl, (blk_cell h 7).trans rfl⟩
set_option maxHeartbeats 2000000 in
set_option maxRecDepth 100000 in
theorem rent_calls (x : S100) (m : Msg) (acc : Bool) (r : S100 × Bool × Bool) (hr : rent x m acc = r) (w : World) :
    Calls Try.prog 43 #[entV x, msgV m, .bool acc] w fun e w' => e = .returned (.tuple #[entV r.1, .bool r.2.1, .bool r.2.2]) ∧ Below w.heap.size w w' := by
  obtain ⟨i, t, dn, un, d, u, dk, uk⟩ := x
  obtain ⟨k, mi, mt, s, a, o⟩ := m
  unfold rent at hr
  simp only [] at hr
  unfold entV msgV
  by_cases h1 : k = 1
  · subst h1
    simp only [if_true] at hr
    cases un with
    | true =>
      simp only [if_true] at hr
      have hr' := Aside0.mk hr
      clear hr
      go_enter Try.func43, Try.ntmps43
      go_wp2
      refine bodyPost_ret (v := .tuple #[entV r.1, .bool r.2.1, .bool r.2.2]) (by rw [← hr'.out]; simp [results, Try.results43, go_sem, entV]) rfl ⟨by rw [← hr'.out]; rfl, ?_⟩
      repeat (first | exact Below.refl _ _ | refine below_drew ?_ | refine below_alloc ?_ _ | refine Below.setCell ?_ (by simp) _)
    | false =>
      cases dn with
      | true =>
        simp only [if_true, Bool.false_eq_true, if_false] at hr
        have hr' := Aside0.mk hr
        clear hr
        go_enter Try.func43, Try.ntmps43
        go_wp2
        refine bodyPost_ret (v := .tuple #[entV r.1, .bool r.2.1, .bool r.2.2]) (by rw [← hr'.out]; simp [results, Try.results43, go_sem, entV]) rfl ⟨by rw [← hr'.out]; rfl, ?_⟩
        repeat (first | exact Below.refl _ _ | refine below_drew ?_ | refine below_alloc ?_ _ | refine Below.setCell ?_ (by simp) _)
      | false =>
        by_cases h2 : a ≤ d
        · have hd : decide (a ≤ d) = true := decide_eq_true h2
          simp only [Bool.false_eq_true, if_false, if_pos h2] at hr
          have hr' := Aside0.mk hr
          clear hr
          go_enter Try.func43, Try.ntmps43
          go_upto_region 7 with fail
          go_region
          all_goals
            go_wp2
            refine bodyPost_ret (v := .tuple #[entV r.1, .bool r.2.1, .bool r.2.2]) (by rw [← hr'.out]; simp [results, Try.results43, go_sem, entV]) rfl ⟨by rw [← hr'.out]; rfl, ?_⟩
            repeat (first | exact Below.refl _ _ | refine below_drew ?_ | refine below_alloc ?_ _ | refine Below.setCell ?_ (by simp) _)
        · have hd : decide (a ≤ d) = false := decide_eq_false h2
          simp only [Bool.false_eq_true, if_false, if_neg h2] at hr
          have hr' := Aside0.mk hr
          clear hr
          go_enter Try.func43, Try.ntmps43
          go_wp2
          refine bodyPost_ret (v := .tuple #[entV r.1, .bool r.2.1, .bool r.2.2]) (by rw [← hr'.out]; simp [results, Try.results43, go_sem, entV]) rfl ⟨by rw [← hr'.out]; rfl, ?_⟩
          repeat (first | exact Below.refl _ _ | refine below_drew ?_ | refine below_alloc ?_ _ | refine Below.setCell ?_ (by simp) _)
  · have hk : (k == 1) = false := by simpa using h1
    simp only [if_neg h1] at hr
    cases un with
    | true =>
      simp only [if_true] at hr
      have hr' := Aside0.mk hr
      clear hr
      go_enter Try.func43, Try.ntmps43
      go_wp2
      refine bodyPost_ret (v := .tuple #[entV r.1, .bool r.2.1, .bool r.2.2]) (by rw [← hr'.out]; simp [results, Try.results43, go_sem, entV]) rfl ⟨by rw [← hr'.out]; rfl, ?_⟩
      repeat (first | exact Below.refl _ _ | refine below_drew ?_ | refine below_alloc ?_ _ | refine Below.setCell ?_ (by simp) _)
    | false =>
      by_cases h2 : a ≤ u
      · have hd : decide (a ≤ u) = true := decide_eq_true h2
        simp only [Bool.false_eq_true, if_false, if_pos h2] at hr
        have hr' := Aside0.mk hr
        clear hr
        go_enter Try.func43, Try.ntmps43
        go_upto_region 13 with fail
        go_region
        all_goals
          go_wp2
          refine bodyPost_ret (v := .tuple #[entV r.1, .bool r.2.1, .bool r.2.2]) (by rw [← hr'.out]; simp [results, Try.results43, go_sem, entV]) rfl ⟨by rw [← hr'.out]; rfl, ?_⟩
          repeat (first | exact Below.refl _ _ | refine below_drew ?_ | refine below_alloc ?_ _ | refine Below.setCell ?_ (by simp) _)
      · have hd : decide (a ≤ u) = false := decide_eq_false h2
        simp only [Bool.false_eq_true, if_false, if_neg h2] at hr
        have hr' := Aside0.mk hr
        clear hr
        cases acc <;> cases dn <;>
        · go_enter Try.func43, Try.ntmps43
          go_upto_region 16 with fail
          go_region
          all_goals
            go_wp2
            refine bodyPost_ret (v := .tuple #[entV r.1, .bool r.2.1, .bool r.2.2]) (by rw [← hr'.out]; simp [results, Try.results43, go_sem, entV]) rfl ⟨by rw [← hr'.out]; rfl, ?_⟩
            repeat (first | exact Below.refl _ _ | refine below_drew ?_ | refine below_alloc ?_ _ | refine Below.setCell ?_ (by simp) _)
end Go.Proofs.Ytdglbiafpofeeaa.Led
