/- make([]T, 0, n): an empty row of the call's own, and Clone's test on nil. -/
import Derived.Test.YtnplnelhodnonaaWMore
import Derived.Laws.MakeOwn
import Derived.WalkSpells
import Derived.Lib.SlBytesConst
import Derived.Test.YtnplnelhodnonaaWGuard
namespace Go.Proofs.YtnplnelhodnonaaW.PrintWords
open Go.RowKit
namespace Kd
section
variable {P : Program} {ops : Array Oper} {rest : List Oper} {o : Oper} {a : Act} {Q : Exit → Act → World → Prop} {α : Type}
theorem R_make0 (d : Kd α) {w0 W : World} (base e : Nat) (hgd : o.guard = none) {N : Tmp} (_hd : o.dst = some N) (t : TypeId) (x y : Operand) (ho : o.op = .makeSlice t x y) (n : Int) (hx : a.eval x = .int .i64 0) (hy : a.eval y = .int .i64 n)
    (ht : P.underlying t = some (.slice e)) (z : Value) (bytes : Nat) (hinfo : (P.info? e).map (fun i => (i.zero, i.size, i.bytes)) = some (some z, d.sz, bytes))
    {ok okp : Nat → Prop} (_hok : ∀ k, okp k → ok k) (hfresh : ok W.heap.size) (h0 : 0 ≤ n) (hl : n.toNat * bytes ≤ 281474976710656) (HB : Below base w0 W) (hbase : base ≤ W.heap.size)
    (h : ∀ v1 w1, d.R e w1 base ok v1 [] → Below base w0 w1 → W.grownBy w1 none → (∃ b, v1.ownBlock = some b ∧ W.heap.size ≤ b) → wpList P ops Q rest (a.put o.dst v1) w1) (hn : n ≤ 9223372036854775807 := by omega) : wpList P ops Q (o :: rest) a W := by
  obtain ⟨m, rfl⟩ := Int.eq_ofNat_of_zero_le h0
  simp only [Int.toNat_natCast] at hl
  obtain ⟨i0, hi, hzz⟩ := Option.map_eq_some_iff.1 hinfo
  simp only [Prod.mk.injEq] at hzz
  obtain ⟨hz0, hz1, hz2⟩ := hzz
  obtain ⟨w1, hr, hown, hg⟩ := run_make_own (P := P) W base t e i0 z d.sz ht hi hz0 hz1 .i64 .i64 m (by rw [hz2, Nat.mul_comm]; exact hl) (by unfold maxLen; omega) hbase
  refine event_run (v := .slice (some ⟨W.heap.size, 0, none⟩) 0 m) (w1 := w1) hgd (by simp [execOp, ho, hx, hy, hr]) (h _ _ ⟨fun k hk => ?_, [], by simpa using hown, Reps.none _ _⟩ (HB.grown hg hbase (by simp)) hg ⟨W.heap.size, by simp [Value.ownBlock], Nat.le_refl _⟩)
  have : W.heap.size = k := by simpa [Value.ownBlock] using hk
  subst this
  exact hfresh
/-- '[]byte("..")': a literal, and the conversion to its own type behind it, which marks the place behind its last cell: from there on it is read alone. -/
theorem V_litmark {W : World} {o1 o2 : Oper} (hgd : o1.guard = none) {N N2 : Tmp} (hd : o1.dst = some N) (hd2 : o2.dst = some N2) (t e : TypeId) (x2 : Operand) (ho2 : o2.op = .convert t t x2) (xs : List Int)
    (ht : P.underlying t = some (.slice e)) (he : P.underlying e = some (.int .u8))
    (hrun : (execOp a.eval o1).run P W = .ok (.value (.slice (some ⟨W.heap.size, 0, none⟩) xs.length xs.length)) (W.alloc (.cells (nums .u8 xs).toArray e)))
    (hx2 : ∀ v, (a.put (some N) v).eval x2 = v) (hw2 : ∀ v, Region.wanted o2 (yielded ops (a.put (some N) v).tmps) = true) (hm : xs.length ≤ 9223372036854775807)
    (h : ∀ v1 w1, V (Kd.int .u8) e w1 W.heap.size (fun k => W.heap.size ≤ k) v1 xs → Below W.heap.size W w1 → wpList P ops Q rest ((a.put (some N) v1).put (some N2) v1) w1) : wpList P ops Q (o1 :: o2 :: rest) a W := by
  refine event_run hgd hrun ?_
  rw [hd]
  refine gate_guard (hw2 _) ?_
  have hr2 : (execOp (a.put (some N) (.slice (some ⟨W.heap.size, 0, none⟩) xs.length xs.length)).eval { o2 with guard := none }).run P (W.alloc (.cells (nums .u8 xs).toArray e)) =
      .ok (.value (.slice (some ⟨W.heap.size, 0, none⟩) xs.length xs.length)) (W.alloc (.cells (nums .u8 xs).toArray e ((nums .u8 xs).toArray.size, (nums .u8 xs).toArray.size + 1))) := by
    have hc := Lib.run_convert_bytes_const (P := P) W t e (nums .u8 xs).toArray xs.length xs.length ht he
    simp [execOp, ho2, hx2, hc]
  refine event_run rfl hr2 ?_
  show wpList P ops Q rest ((a.put (some N) _).put o2.dst _) _
  rw [hd2]
  refine h _ _ ?_ ((Below.refl _ W).alloc (Nat.le_refl _) _)
  refine ⟨_, _, rfl, Nat.le_refl _, fun W' hW => ?_⟩
  have hb := hW W.heap.size (Nat.le_refl _) (by show W.heap.size < (W.heap.push _).size; simp)
  have hb2 : W'.heap[W.heap.size]? = some (.cells (nums .u8 xs).toArray e ((nums .u8 xs).toArray.size, (nums .u8 xs).toArray.size + 1)) := hb.trans (heap_alloc_new W _)
  refine ⟨rfl, hm, fun _ => ⟨_, rfl, fun j p hj => ⟨[.int .u8 p], rfl, rfl, fun i u hu => ?_⟩⟩⟩
  obtain ⟨hi, hv⟩ : i = 0 ∧ Value.int .u8 p = u := by
    cases i with
    | zero => exact ⟨rfl, by simpa using hu⟩
    | succ i => simp at hu
  subst hi; subst hv
  rw [add_plain, cell_of_row W' _ _ _ _ _ hb2]
  have hs : (Kd.int .u8).sz = 1 := rfl
  rw [hs, Nat.mul_one, Nat.add_zero]
  simp [nums, hj]
end
end Kd
/-- A cell that lies elsewhere, behind six stores into one block. -/
theorem cell_far6 {w : World} {g : Nat} {v0 v1 v2 v3 v4 v5 : Value} {i0 i1 i2 i3 i4 i5 : Nat} {a : Addr} {u : Value} (ha : a.block ≠ g) (h : w.cell? a = some u) :
    ((((((w.setCell ⟨g, i0, none⟩ v0).setCell ⟨g, i1, none⟩ v1).setCell ⟨g, i2, none⟩ v2).setCell ⟨g, i3, none⟩ v3).setCell ⟨g, i4, none⟩ v4).setCell ⟨g, i5, none⟩ v5).cell? a = some u := by
  rw [cell_far (p := ⟨g, i5, none⟩) ha, cell_far (p := ⟨g, i4, none⟩) ha, cell_far (p := ⟨g, i3, none⟩) ha, cell_far (p := ⟨g, i2, none⟩) ha, cell_far (p := ⟨g, i1, none⟩) ha, cell_far (p := ⟨g, i0, none⟩) ha, h]
/-! short names of three facts that stand often in the printed walks -/
theorem sA_ {α : Type} {l : List α} {i : Nat} {a : α} : l.toArray.setIfInBounds i a = (l.set i a).toArray := List.setIfInBounds_toArray ..
theorem sB_ {α : Type} {x : α} {l : List α} {a : α} : (x :: l).set 0 a = a :: l := List.set_cons_zero
theorem sC_ {α : Type} {x : α} {l : List α} {i : Nat} {a : α} : (x :: l).set (i + 1) a = x :: l.set i a := List.set_cons_succ
end Go.Proofs.YtnplnelhodnonaaW.PrintWords
