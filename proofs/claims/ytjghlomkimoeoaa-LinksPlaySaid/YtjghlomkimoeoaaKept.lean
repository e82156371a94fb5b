/- An append to a row leaves the cells below the row's end. -/
import Derived.Test.YtjghlomkimoeoaaSteps
namespace Go.Proofs.Ytjghlomkimoeoaa.Stp
open Go.RowKit Go.Proofs.YtjghlomkimoeoaaW.PrintWords
set_option linter.unusedVariables false
set_option linter.unusedSimpArgs false
section
variable {P : Program}
theorem row_kept (w : World) (t ty e : TypeId) (i : TypeInfo) (z : Value) (size bytes : Nat) (ht : P.underlying t = some (.slice e)) (hi : P.info? e = some i) (hz : i.zero = some z)
    (hsize : i.size = size) (hby : i.bytes = bytes) (hzs : z.cells.size = size) (hsz : 0 < size)
    (g off n cap : Nat) (cur : Array Value) (hg : w.heap[g]? = some (.cells cur e (0, 0))) (hnc : n ≤ cap) (hcs : cur.size = (off + cap) * size)
    (a : Addr) (m c : Nat) (news : List Value) (hl : news.length = m * size) (hnews : ∀ j u, news[j]? = some u → w.cell? (a.add j) = some u) (h1 : ∀ u ∈ news, u.oneCell' = true)
    (h63 : n + m ≤ maxLen) (hbytes : (n + m) * bytes ≤ 140737488355328) {v1 : Value} {w1 : World}
    (hrun : (Builtin.append_ #[t, t] ty #[.slice (some ⟨g, off * size, none⟩) n cap, .slice (some a) m c]).run P w = .ok v1 w1) :
    ∀ j, j < off * size + n * size → w1.cell? ⟨g, j, none⟩ = w.cell? ⟨g, j, none⟩ := by
  intro j hj
  by_cases hroom : n + m ≤ cap
  · have hfit : off * size + n * size + news.length ≤ cur.size := by
      rw [hl, hcs, ← Nat.add_mul, ← Nat.add_mul]
      exact Nat.mul_le_mul_right _ (by omega)
    subst hsize
    have hr := run_append_room_cells (P := P) (w := w) t ty e i ht hi g (off * i.size) n cap a m c news hl hnews h1 hroom
      (fun j hj => by rw [cell_of_row w g _ cur e (0, 0) hg]; simp; omega) (fun j _ => blk_frozen hg _)
    rw [hr] at hrun
    cases hrun
    obtain ⟨cur', h3, h4, h5⟩ := setCells_row news (off * i.size + n * i.size) w cur hg hfit
    rw [cell_of_row _ g j cur' e (0, 0) h3, cell_of_row w g j cur e (0, 0) hg, ← Array.getElem?_toList, ← Array.getElem?_toList, h5, List.append_assoc, List.getElem?_append_left (by rw [List.length_take, Array.length_toList]; omega), List.getElem?_take, if_pos hj]
  · have hlen : n * size ≤ cap * size := Nat.mul_le_mul_right _ hnc
    have hadd : (off + cap) * size = off * size + cap * size := Nat.add_mul _ _ _
    obtain ⟨v', w', hr, _, hgn⟩ := run_append_arg_grows (P := P) (w := w) t ty e i z size bytes ht hi hz hsize hby hzs hsz ⟨g, off * size, none⟩ n cap ((cur.toList.drop (off * size)).take (n * size))
      (by rw [List.length_take, List.length_drop, Array.length_toList, hcs]; omega)
      (fun k u hu => by
        rw [List.getElem?_take] at hu
        split at hu
        · rw [List.getElem?_drop, Array.getElem?_toList] at hu
          rw [add_at, cell_of_row w g _ cur e (0, 0) hg]
          exact hu
        · cases hu) a m c news hl hnews (by omega) h63 hbytes
    rw [hr] at hrun
    cases hrun
    exact World.cell?_of_block (hgn.block g (blk_lt hg) (by simp))
end
section
variable {P : Program} {ops : Array Oper} {o : Oper} {a : Act} {K : Act → World → Prop} {Q : Exit → Act → World → Prop} {α : Type}
/-- append(v, p): p's cells lie anywhere; v is a row of one's own that may begin inside its block. -/
theorem Q_append_at2 (d : Kd α) {W : World} (base : Nat) (hw : Region.wanted o (yielded ops a.tmps) = true) (s x : Operand) (t e : TypeId) (z : Value) (bytes : Nat)
    (ho : o.op = .call { callee := .builtin .append, args := #[s, x], argTypes := #[t, t] })
    (ht : P.underlying t = some (.slice e)) (hinfo : (P.info? e).map (fun i => (i.zero, i.size, i.bytes)) = some (some z, d.sz, bytes)) (hz : z.cells.size = d.sz) (hs0 : 0 < d.sz) (hb0 : 0 < bytes)
    (v : Value) (xs : List α) (p : α) (cs : List Value) (ok okp : Nat → Prop) (ad : Addr) (c : Nat) (hs : a.eval s = v) (hx : a.eval x = .slice (some ad) 1 c) (hp : d.M W base okp p cs) (hcells : ∀ j u, cs[j]? = some u → W.cell? (ad.add j) = some u)
    (hokp : ∀ k, okp k → ok k ∧ some k ≠ v.ownBlock) (hfresh : ∀ k, W.heap.size ≤ k → ok k)
    (HO : d.Q e W base ok v xs) (hbase : base ≤ W.heap.size) (hl : (xs.length + 1) * bytes ≤ 140737488355328)
    (h : ∀ v1 w1, d.Q e w1 base ok v1 (xs ++ [p]) → W.grownBy w1 v.ownBlock → (v1.ownBlock = v.ownBlock ∨ ∃ b, v1.ownBlock = some b ∧ W.heap.size ≤ b) → (∀ g q n cap, v = .slice (some ⟨g, q, none⟩) n cap → 0 < n → ∀ j, j < q + n * d.sz → w1.cell? ⟨g, j, none⟩ = W.cell? ⟨g, j, none⟩) → K (a.put o.dst v1) w1) {E : Prop} :
    if Region.wanted o (yielded ops a.tmps) = true then Oper.wp P o a W K Q else E := by
  rw [if_pos hw]
  obtain ⟨h0, inner, hown, hr⟩ := HO
  obtain ⟨i0, hi, hzz⟩ := Option.map_eq_some_iff.1 hinfo
  simp only [Prod.mk.injEq] at hzz
  obtain ⟨hz0, hz1, hz2⟩ := hzz
  have hlen : xs.length + 1 ≤ 140737488355328 := Nat.le_trans (Nat.le_mul_of_pos_right _ hb0) hl
  have hcl := d.K_len (d.K_of_M hp)
  obtain ⟨v1, w1, hrun, hq1, hg1, hat⟩ := q_append (P := P) W base t o.type e i0 z d.sz bytes ht hi hz0 hz1 hz2 hz hs0 v xs.length inner hown ad 1 c cs (by rw [hcl, Nat.one_mul])
    hcells (d.K_one (d.K_of_M hp)) (by omega) (by simp only [maxLen]; omega) hl hbase
  have hfin := h v1 w1 (Kd.Q_appended h0 hr hp hokp hfresh hq1 hg1 hat) hg1 hat (by
    intro g q n cap hv hn j hj
    rcases hown.2 with ⟨hz0, A, hv2, _⟩ | ⟨g2, off, cap2, cur, hv2, _, hg2, hnc, hcm, hcs, _⟩
    · rw [hv] at hv2
      cases hv2
      omega
    · rw [hv] at hv2
      cases hv2
      rw [hv] at hrun
      exact row_kept W t o.type e i0 z d.sz bytes ht hi hz0 hz1 hz2 hz hs0 g off xs.length cap cur hg2 hnc hcs ad 1 c cs (by rw [hcl, Nat.one_mul]) hcells (d.K_one (d.K_of_M hp)) (by simp only [maxLen]; omega) hl hrun j hj)
  unfold Oper.wp execOp
  simp only [ho, resolve, invoke, builtin, Sem.run_bind, Sem.run_pure, Result.andThen_ok, List.map_toArray, List.map_cons, List.map_nil, hs, hx, hrun]
  exact hfin
end
end Go.Proofs.Ytjghlomkimoeoaa.Stp
