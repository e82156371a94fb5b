/- Laws at a step of a region that draws its order: a map's entry laid and written, a map's update, an append of one element that lies anywhere. -/
import Derived.Test.YtnplnelhodnonaaAmap
import Derived.Test.YtnplnelhodnonaaWMore
import Derived.RegionTactic
import Derived.OwnWalk
namespace Go.Proofs.Ytnplnelhodnonaa.Stp
open Go.RowKit Go.Proofs.YtnplnelhodnonaaW.PrintWords Go.Proofs.YtnplnelhodnonaaW.PrintLast
set_option linter.unusedVariables false
set_option linter.unusedSectionVars false
section
variable {P : Program} {w : World} {ops : Array Oper} {o : Oper} {a : Act} {K : Act → World → Prop} {Q : Exit → Act → World → Prop} {E : Prop}
theorem step_entry (hw : Region.wanted o (yielded ops a.tmps) = true) (m x : Operand) (t : TypeId) (hop : o.op = Op.mapEntry t m x) (mv kv : Value) (hm : a.eval m = mv) (hx : a.eval x = kv) {v : Value} {w1 : World}
    (hrun : (Instr.mapEntry t mv kv).run P w = .ok v w1) (hK : K (a.put o.dst v) w1) : if Region.wanted o (yielded ops a.tmps) = true then Oper.wp P o a w K Q else E := by
  rw [if_pos hw]
  unfold Oper.wp
  simp [execOp, hop, hm, hx, hrun, Result.andThen]
  exact hK
theorem step_entryStore (hw : Region.wanted o (yielded ops a.tmps) = true) (m s x : Operand) (t : TypeId) (hop : o.op = Op.entryStore t m s x) (mv sv xv : Value) (hm : a.eval m = mv) (hs : a.eval s = sv) (hx : a.eval x = xv) {w1 : World}
    (hrun : (Instr.entryStore t mv sv xv).run P w = .ok () w1) (hK : K (a.put o.dst undef) w1) : if Region.wanted o (yielded ops a.tmps) = true then Oper.wp P o a w K Q else E := by
  rw [if_pos hw]
  unfold Oper.wp
  simp [execOp, hop, hm, hs, hx, hrun, Result.andThen]
  exact hK
theorem step_update (hw : Region.wanted o (yielded ops a.tmps) = true) (m x y : Operand) (t : TypeId) (hop : o.op = Op.mapUpdate t m x y) (mv kv xv : Value) (hm : a.eval m = mv) (hx : a.eval x = kv) (hy : a.eval y = xv) {w1 : World}
    (hrun : (Instr.mapUpdate t mv kv xv).run P w = .ok () w1) (hK : K (a.put o.dst undef) w1) : if Region.wanted o (yielded ops a.tmps) = true then Oper.wp P o a w K Q else E := by
  rw [if_pos hw]
  unfold Oper.wp
  simp [execOp, hop, hm, hx, hy, hrun, Result.andThen]
  exact hK
end
section
variable {P : Program} {ops : Array Oper} {o : Oper} {a : Act} {K : Act → World → Prop} {Q : Exit → Act → World → Prop} {α : Type}
/-- append(v, p): p's cells lie anywhere; v is a row of one's own that may begin inside its block. -/
theorem Q_append_at (d : Kd α) {W : World} (base : Nat) (hw : Region.wanted o (yielded ops a.tmps) = true) (s x : Operand) (t e : TypeId) (z : Value) (bytes : Nat)
    (ho : o.op = .call { callee := .builtin .append, args := #[s, x], argTypes := #[t, t] })
    (ht : P.underlying t = some (.slice e)) (hinfo : (P.info? e).map (fun i => (i.zero, i.size, i.bytes)) = some (some z, d.sz, bytes)) (hz : z.cells.size = d.sz) (hs0 : 0 < d.sz) (hb0 : 0 < bytes)
    (v : Value) (xs : List α) (p : α) (cs : List Value) (ok okp : Nat → Prop) (ad : Addr) (c : Nat) (hs : a.eval s = v) (hx : a.eval x = .slice (some ad) 1 c) (hp : d.M W base okp p cs) (hcells : ∀ j u, cs[j]? = some u → W.cell? (ad.add j) = some u)
    (hokp : ∀ k, okp k → ok k ∧ some k ≠ v.ownBlock) (hfresh : ∀ k, W.heap.size ≤ k → ok k)
    (HO : d.Q e W base ok v xs) (hbase : base ≤ W.heap.size) (hl : (xs.length + 1) * bytes ≤ 140737488355328)
    (h : ∀ v1 w1, d.Q e w1 base ok v1 (xs ++ [p]) → W.grownBy w1 v.ownBlock → (v1.ownBlock = v.ownBlock ∨ ∃ b, v1.ownBlock = some b ∧ W.heap.size ≤ b) → K (a.put o.dst v1) w1) {E : Prop} :
    if Region.wanted o (yielded ops a.tmps) = true then Oper.wp P o a W K Q else E := by
  rw [if_pos hw]
  obtain ⟨h0, inner, hown, hr⟩ := HO
  obtain ⟨i0, hi, hzz⟩ := Option.map_eq_some_iff.1 hinfo
  simp only [Prod.mk.injEq] at hzz
  obtain ⟨hz0, hz1, hz2⟩ := hzz
  have hlen : xs.length + 1 ≤ 140737488355328 := Nat.le_trans (Nat.le_mul_of_pos_right _ hb0) hl
  have hcl := d.K_len (d.K_of_M hp)
  obtain ⟨v1, w1, hrun, hq1, hg1, hat⟩ := q_append (P := P) W base t o.type e i0 z d.sz bytes ht hi hz0 hz1 hz2 hz hs0 v xs.length inner hown ad 1 c cs (by rw [hcl, Nat.one_mul])
    hcells (d.K_one (d.K_of_M hp)) (by omega) (by simp only [maxLen]; omega) hl hbase
  have hfin := h v1 w1 (Kd.Q_appended h0 hr hp hokp hfresh hq1 hg1 hat) hg1 hat
  unfold Oper.wp execOp
  simp only [ho, resolve, invoke, builtin, Sem.run_bind, Sem.run_pure, Result.andThen_ok, List.map_toArray, List.map_cons, List.map_nil, hs, hx, hrun]
  exact hfin
end
end Go.Proofs.Ytnplnelhodnonaa.Stp
