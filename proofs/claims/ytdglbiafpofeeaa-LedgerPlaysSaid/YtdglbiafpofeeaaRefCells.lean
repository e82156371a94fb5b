/- An entry's cells written; the entry's contract with its arguments laid open. -/
import Derived.Test.YtdglbiafpofeeaaRefEnt
import Derived.Outline
namespace Go.Proofs.Ytdglbiafpofeeaa.Led
open Go.RowKit Go.Proofs.YtdglbiafpofeeaaW.PrintWords Go.Proofs.YtdglbiafpofeeaaW.PrintLast Go.Proofs.YtdglbiafpofeeaaW.PrintMore Go.Proofs.Ytdglbiafpofeeaa.PLedgerPlays
set_option linter.unusedVariables false
set_option linter.unusedSimpArgs false
theorem rent_at (x : S100) (kind inst turn : Int) (name : ByteArray) (att : Int) (ok acc : Bool) (y : S100) (okk eff : Bool) (hr : rent x ⟨kind, inst, turn, name, att, ok⟩ acc = (y, okk, eff)) (w : World) :
    Calls Try.prog 43 #[.agg #[.int .i64 x.f0, .int .i64 x.f1, .bool x.f2, .bool x.f3, .int .i64 x.f4, .int .i64 x.f5, .bool x.f6, .bool x.f7], .agg #[.int .i64 kind, .int .i64 inst, .int .i64 turn, .string name, .int .i64 att, .bool ok], .bool acc] w fun e w' =>
      e = .returned (.tuple #[.agg #[.int .i64 y.f0, .int .i64 y.f1, .bool y.f2, .bool y.f3, .int .i64 y.f4, .int .i64 y.f5, .bool y.f6, .bool y.f7], .bool okk, .bool eff]) ∧ Below w.heap.size w w' :=
  rent_calls x ⟨kind, inst, turn, name, att, ok⟩ acc _ hr w
set_option maxHeartbeats 4000000 in
theorem eight {W : World} {g : Nat} {x0 : S100} (hg : W.heap[g]? = some (.cells (entA x0) 100 (0, 0))) (x : S100) (W' : World)
    (hW : W' = (((((((W.setCell ⟨g, 0, none⟩ (.int .i64 x.f0)).setCell ⟨g, 1, none⟩ (.int .i64 x.f1)).setCell ⟨g, 2, none⟩ (.bool x.f2)).setCell ⟨g, 3, none⟩ (.bool x.f3)).setCell ⟨g, 4, none⟩ (.int .i64 x.f4)).setCell ⟨g, 5, none⟩ (.int .i64 x.f5)).setCell ⟨g, 6, none⟩ (.bool x.f6)).setCell ⟨g, 7, none⟩ (.bool x.f7)) :
    W'.heap[g]? = some (.cells (entA x) 100 (0, 0)) ∧ KeepBut W W' g none ∧ ∀ base, base ≤ g → Below base W W' := by
  subst hW
  have b0 := blk_put hg 0 (.int .i64 x.f0) rfl
  have b1 := blk_put b0 1 (.int .i64 x.f1) rfl
  have b2 := blk_put b1 2 (.bool x.f2) rfl
  have b3 := blk_put b2 3 (.bool x.f3) rfl
  have b4 := blk_put b3 4 (.int .i64 x.f4) rfl
  have b5 := blk_put b4 5 (.int .i64 x.f5) rfl
  have b6 := blk_put b5 6 (.bool x.f6) rfl
  have b7 := blk_put b6 7 (.bool x.f7) rfl
  refine ⟨b7, ((((((((KeepBut.refl _ _ _).set_ _ _).set_ _ _).set_ _ _).set_ _ _).set_ _ _).set_ _ _).set_ _ _).set_ _ _, fun base hb => ?_⟩
  · exact (((((((((Below.refl _ _).setCell hb _).setCell hb _).setCell hb _).setCell hb _).setCell hb _).setCell hb _).setCell hb _).setCell hb _)
theorem ent_frozen {W : World} {g : Nat} {x : S100} (h : W.heap[g]? = some (.cells (entA x) 100 (0, 0))) :
    W.frozen? ⟨g, 0, none⟩ = false ∧ W.frozen? ⟨g, 1, none⟩ = false ∧ W.frozen? ⟨g, 2, none⟩ = false ∧ W.frozen? ⟨g, 3, none⟩ = false ∧ W.frozen? ⟨g, 4, none⟩ = false ∧ W.frozen? ⟨g, 5, none⟩ = false ∧ W.frozen? ⟨g, 6, none⟩ = false ∧ W.frozen? ⟨g, 7, none⟩ = false :=
  ⟨blk_frozen h 0, blk_frozen h 1, blk_frozen h 2, blk_frozen h 3, blk_frozen h 4, blk_frozen h 5, blk_frozen h 6, blk_frozen h 7⟩
end Go.Proofs.Ytdglbiafpofeeaa.Led
