/- make([]T, 0, n): an empty row of the call's own, and Clone's test on nil. -/
import Derived.Test.YtdglbiafpofeeaaVWMore
import Derived.Laws.MakeOwn
import Derived.WalkSpells
import Derived.Lib.SlBytesConst
import Derived.Test.YtdglbiafpofeeaaVWGuard
namespace Go.Proofs.YtdglbiafpofeeaaW.PrintWords
open Go.RowKit
namespace Kd
section
variable {P : Program} {ops : Array Oper} {rest : List Oper} {o : Oper} {a : Act} {Q : Exit → Act → World → Prop} {α : Type}
theorem R_make0 (d : Kd α) {w0 W : World} (base e : Nat) (hgd : o.guard = none) {N : Tmp} (_hd : o.dst = some N) (t : TypeId) (x y : Operand) (ho : o.op = .makeSlice t x y) (n : Int) (hx : a.eval x = .int .i64 0) (hy : a.eval y = .int .i64 n)
    (ht : P.underlying t = some (.slice e)) (z : Value) (bytes : Nat) (hinfo : (P.info? e).map (fun i => (i.zero, i.size, i.bytes)) = some (some z, d.sz, bytes))
    {ok okp : Nat → Prop} (_hok : ∀ k, okp k → ok k) (hfresh : ok W.heap.size) (h0 : 0 ≤ n) (hl : n.toNat * bytes ≤ 281474976710656) (HB : Below base w0 W) (hbase : base ≤ W.heap.size)
    (h : ∀ v1 w1, d.R e w1 base ok v1 [] → Below base w0 w1 → W.grownBy w1 none → (∃ b, v1.ownBlock = some b ∧ W.heap.size ≤ b) → wpList P ops Q rest (a.put o.dst v1) w1) (hn : n ≤ 9223372036854775807 := by omega) : wpList P ops Q (o :: rest) a W := by
  obtain ⟨m, rfl⟩ := Int.eq_ofNat_of_zero_le h0
  simp only [Int.toNat_natCast] at hl
  obtain ⟨i0, hi, hzz⟩ := Option.map_eq_some_iff.1 hinfo
  simp only [Prod.mk.injEq] at hzz
  obtain ⟨hz0, hz1, hz2⟩ := hzz
  obtain ⟨w1, hr, hown, hg⟩ := run_make_own (P := P) W base t e i0 z d.sz ht hi hz0 hz1 .i64 .i64 m (by rw [hz2, Nat.mul_comm]; exact hl) (by unfold maxLen; omega) hbase
  refine event_run (v := .slice (some ⟨W.heap.size, 0, none⟩) 0 m) (w1 := w1) hgd (by simp [execOp, ho, hx, hy, hr]) (h _ _ ⟨fun k hk => ?_, [], by simpa using hown, Reps.none _ _⟩ (HB.grown hg hbase (by simp)) hg ⟨W.heap.size, by simp [Value.ownBlock], Nat.le_refl _⟩)
  have : W.heap.size = k := by simpa [Value.ownBlock] using hk
  subst this
  exact hfresh
end
end Kd
/-- A cell that lies elsewhere, behind six stores into one block. -/
theorem cell_far6 {w : World} {g : Nat} {v0 v1 v2 v3 v4 v5 : Value} {i0 i1 i2 i3 i4 i5 : Nat} {a : Addr} {u : Value} (ha : a.block ≠ g) (h : w.cell? a = some u) :
    ((((((w.setCell ⟨g, i0, none⟩ v0).setCell ⟨g, i1, none⟩ v1).setCell ⟨g, i2, none⟩ v2).setCell ⟨g, i3, none⟩ v3).setCell ⟨g, i4, none⟩ v4).setCell ⟨g, i5, none⟩ v5).cell? a = some u := by
  rw [cell_far (p := ⟨g, i5, none⟩) ha, cell_far (p := ⟨g, i4, none⟩) ha, cell_far (p := ⟨g, i3, none⟩) ha, cell_far (p := ⟨g, i2, none⟩) ha, cell_far (p := ⟨g, i1, none⟩) ha, cell_far (p := ⟨g, i0, none⟩) ha, h]
/-! short names of three facts that stand often in the printed walks -/
theorem sA_ {α : Type} {l : List α} {i : Nat} {a : α} : l.toArray.setIfInBounds i a = (l.set i a).toArray := List.setIfInBounds_toArray ..
theorem sB_ {α : Type} {x : α} {l : List α} {a : α} : (x :: l).set 0 a = a :: l := List.set_cons_zero
theorem sC_ {α : Type} {x : α} {l : List α} {i : Nat} {a : α} : (x :: l).set (i + 1) a = x :: l.set i a := List.set_cons_succ
end Go.Proofs.YtdglbiafpofeeaaW.PrintWords
