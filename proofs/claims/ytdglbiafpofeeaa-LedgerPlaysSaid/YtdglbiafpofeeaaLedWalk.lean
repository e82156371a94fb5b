/- The ledger's own functions, walked: what they do is what the plain data do. -/
import Derived.Test.YtdglbiafpofeeaaLedPure
import Derived.Test.YtdglbiafpofeeaaWMore
import Derived.Test.YtdglbiafpofeeaaMake0
import Derived.WalkSpells
import Derived.WalkKit
import Derived.Deep.QuietTactic
import Derived.BigQuiet
import Derived.DeepKeys4
import Derived.Test.YtdglbiafpofeeaaProg
namespace Go.Proofs.Ytdglbiafpofeeaa.Led
open Go.RowKit Go.Proofs.YtdglbiafpofeeaaW.PrintWords Go.Proofs.YtdglbiafpofeeaaW.PrintLast Go.Proofs.YtdglbiafpofeeaaW.PrintMore
set_option linter.unusedVariables false
set_option linter.unusedSimpArgs false

def entCells (x : Ent) : Array Value := #[.bool x.done, .bool x.undone, .int .i64 x.db, .bool x.dok, .int .i64 x.ub, .bool x.uok]
set_option maxHeartbeats 2000000 in
set_option maxRecDepth 100000 in
theorem doIt_calls (x : Ent) (n : Int) (acc : Bool) (r : Ent × Bool × Bool) (hr : doIt x n acc = r) (g : Nat) (w : World) (hb : w.heap[g]? = some (.cells (entCells x) 95 (0, 0))) (h0 : 0 ≤ n) (h1 : n ≤ 2147483647) :
    Calls Try.prog 40 #[.pointer (some ⟨g, 0, none⟩), .int .i64 n, .bool acc] w fun e w' =>
      e = .returned (.tuple #[.bool r.2.1, .bool r.2.2]) ∧ w'.heap[g]? = some (.cells (entCells r.1) 95 (0, 0)) ∧ KeepBut w w' g none ∧ ∀ base, base ≤ g → Below base w w' := by
  obtain ⟨done, undone, db, dok, ub, uok⟩ := x
  have c0 : w.cell? ⟨g, 0, none⟩ = some (.bool done) := (blk_cell hb 0).trans rfl
  have c1 : w.cell? ⟨g, 1, none⟩ = some (.bool undone) := (blk_cell hb 1).trans rfl
  have c2 : w.cell? ⟨g, 2, none⟩ = some (.int .i64 db) := (blk_cell hb 2).trans rfl
  have c3 : w.cell? ⟨g, 3, none⟩ = some (.bool dok) := (blk_cell hb 3).trans rfl
  have f0 := blk_frozen hb 0
  have f2 := blk_frozen hb 2
  have f3 := blk_frozen hb 3
  unfold doIt at hr
  cases undone with
  | true =>
    simp only [if_true] at hr
    subst hr
    go_enter Try.func40, Try.ntmps40
    go_wp2
    go_ret2
    exact ⟨rfl, hb, KeepBut.refl _ _ _, fun _ _ => Below.refl _ _⟩
  | false =>
    cases done with
    | true =>
      simp only [if_true, Bool.false_eq_true, if_false] at hr
      subst hr
      go_enter Try.func40, Try.ntmps40
      go_wp2
      go_ret2
      exact ⟨rfl, hb, KeepBut.refl _ _ _, fun _ _ => Below.refl _ _⟩
    | false =>
      by_cases hlt : n < db
      · have hd : decide (n < db) = true := decide_eq_true hlt
        simp only [if_true, Bool.false_eq_true, if_false, if_pos hlt] at hr
        subst hr
        go_enter Try.func40, Try.ntmps40
        go_wp2
        go_ret2
        exact ⟨rfl, hb, KeepBut.refl _ _ _, fun _ _ => Below.refl _ _⟩
      · have hd : decide (n < db) = false := decide_eq_false hlt
        simp only [if_true, Bool.false_eq_true, if_false, if_neg hlt] at hr
        subst hr
        go_enter Try.func40, Try.ntmps40
        go_wp2
        go_ret2
        refine ⟨rfl, ?_, ?_, fun base hbase => ?_⟩
        · exact blk_put (blk_put (blk_put hb 2 _ rfl) 3 _ rfl) 0 _ rfl
        · exact (((KeepBut.refl _ _ _).set_ _ _).set_ _ _).set_ _ _
        · exact (((Below.refl base w).setCell hbase _).setCell hbase _).setCell hbase _
set_option maxHeartbeats 2000000 in
set_option maxRecDepth 100000 in
theorem undoIt_calls (x : Ent) (n : Int) (acc : Bool) (r : Ent × Bool × Bool) (hr : undoIt x n acc = r) (g : Nat) (w : World) (hb : w.heap[g]? = some (.cells (entCells x) 95 (0, 0))) (h0 : 0 ≤ n) (h1 : n ≤ 2147483647) :
    Calls Try.prog 41 #[.pointer (some ⟨g, 0, none⟩), .int .i64 n, .bool acc] w fun e w' =>
      e = .returned (.tuple #[.bool r.2.1, .bool r.2.2]) ∧ w'.heap[g]? = some (.cells (entCells r.1) 95 (0, 0)) ∧ KeepBut w w' g none ∧ ∀ base, base ≤ g → Below base w w' := by
  obtain ⟨done, undone, db, dok, ub, uok⟩ := x
  have c0 : w.cell? ⟨g, 0, none⟩ = some (.bool done) := (blk_cell hb 0).trans rfl
  have c1 : w.cell? ⟨g, 1, none⟩ = some (.bool undone) := (blk_cell hb 1).trans rfl
  have c4 : w.cell? ⟨g, 4, none⟩ = some (.int .i64 ub) := (blk_cell hb 4).trans rfl
  have c5 : w.cell? ⟨g, 5, none⟩ = some (.bool uok) := (blk_cell hb 5).trans rfl
  have f1 := blk_frozen hb 1
  have f4 := blk_frozen hb 4
  have f5 := blk_frozen hb 5
  unfold undoIt at hr
  cases undone with
  | true =>
    simp only [if_true] at hr
    subst hr
    go_enter Try.func41, Try.ntmps41
    go_wp2
    go_ret2
    exact ⟨rfl, hb, KeepBut.refl _ _ _, fun _ _ => Below.refl _ _⟩
  | false =>
    by_cases hlt : n < ub
    · have hd : decide (n < ub) = true := decide_eq_true hlt
      simp only [if_true, Bool.false_eq_true, if_false, if_pos hlt] at hr
      subst hr
      go_enter Try.func41, Try.ntmps41
      go_wp2
      go_ret2
      exact ⟨rfl, hb, KeepBut.refl _ _ _, fun _ _ => Below.refl _ _⟩
    · have hd : decide (n < ub) = false := decide_eq_false hlt
      simp only [if_true, Bool.false_eq_true, if_false, if_neg hlt] at hr
      subst hr
      cases acc <;> cases done <;>
      · go_enter Try.func41, Try.ntmps41
        go_wp2
        go_quiet (fail)
        go_wp2
        go_ret2
        refine ⟨rfl, ?_, ?_, fun base hbase => ?_⟩
        · exact blk_put (blk_put (blk_put hb 4 _ rfl) 5 _ rfl) 1 _ rfl
        · exact (((KeepBut.refl _ _ _).set_ _ _).set_ _ _).set_ _ _
        · exact pw_below_drewN ((((Below.refl base w).setCell hbase _).setCell hbase _).setCell hbase _) _
end Go.Proofs.Ytdglbiafpofeeaa.Led
