/- A range over the timers' map, whatever the round lays; a row that was sorted. -/
import Derived.Test.YtdfghndcengkaaaTmOrd
import Derived.Maps.RangeRun
import Derived.Test.YtdfghndcengkaaaTmLay
namespace Go.Proofs.Ytdfghndcengkaaa.Tmr
open Go.RowKit Go.Proofs.YtdfghndcengkaaaW.PrintWords Go.Proofs.YtdfghndcengkaaaW.PrintLast Go.Proofs.YtdfghndcengkaaaW.PrintMore Go.Proofs.Ytdfghndcengkaaa.PTimersPlay
open Amap Frm
set_option linter.unusedVariables false
set_option linter.unusedSimpArgs false
def decV (q : Value × Value) : Tm := (match q.1 with | .string s => s | _ => ⟨#[]⟩, match q.2 with | .int _ d => d | _ => 0)
def dec (x : MapEntry) : Tm := decV (x.key, x.val)
def sees (es : Array MapEntry) (seen : Array Nat) : List MapEntry := es.toList.filter (fun x => seen.contains x.born)
theorem sees_push {seen : Array Nat} {e : MapEntry} (hs : seen.contains e.born = false) : ∀ l : List MapEntry, (l.map (·.born)).Nodup → e ∈ l → (l.filter (fun x => (seen.push e.born).contains x.born)).Perm (e :: l.filter (fun x => seen.contains x.born))
  | x :: l, hn, he => by
    have hn' := List.nodup_cons.1 hn
    rw [List.filter_cons, List.filter_cons, contains_push]
    rcases List.mem_cons.1 he with rfl | he
    · rw [hs, beq_self_eq_true, Bool.false_or, if_pos rfl, if_neg (by simp)]
      refine List.Perm.of_eq (congrArg (e :: ·) (List.filter_congr fun y hy => ?_))
      rw [contains_push]
      have h1 : (y.born == e.born) = false := by
        have : y.born ≠ e.born := fun e1 => hn'.1 (List.mem_map.2 ⟨y, hy, e1⟩)
        simpa using this
      rw [h1, Bool.or_false]
    · have h1 : (x.born == e.born) = false := by
        have : x.born ≠ e.born := fun e1 => hn'.1 (List.mem_map.2 ⟨e, he, e1.symm⟩)
        simpa using this
      rw [h1, Bool.or_false]
      have ih := sees_push hs l hn'.2 he
      cases seen.contains x.born with
      | true => exact (ih.cons x).trans (List.Perm.swap _ _ _)
      | false => exact ih
structure It (w : World) (r b : Nat) (T D : Tms) : Prop where
  ex : ∃ es clock since seen c0, w.heap[b]? = some (.map es clock) ∧ w.heap[r]? = some (.mapIter (some b) since seen c0) ∧ (∀ x ∈ es.toList, x.born < since) ∧ since ≤ c0 ∧ since ≤ clock ∧ (es.toList.map (·.born)).Nodup ∧ es.toList.map (fun e => (e.key, e.val)) = T.map (fun p => (ek p.1, ev p.2)) ∧ D.Perm ((sees es seen).map dec)
theorem dec_all {es : List MapEntry} {T : Tms} (he : es.map (fun e => (e.key, e.val)) = T.map (fun p => (ek p.1, ev p.2))) : es.map dec = T := by
  have h1 : es.map dec = (es.map (fun e => (e.key, e.val))).map decV := by rw [List.map_map]; rfl
  rw [h1, he, List.map_map]
  exact (List.map_congr_left fun _ _ => rfl).trans (List.map_id _)
theorem dec_key {es : List MapEntry} {T : Tms} (he : es.map (fun e => (e.key, e.val)) = T.map (fun p => (ek p.1, ev p.2))) {e : MapEntry} (hm : e ∈ es) : dec e ∈ T ∧ e.key = .string (dec e).1 ∧ e.val = .int .i64 (dec e).2 := by
  refine ⟨by rw [← dec_all he]; exact List.mem_map.2 ⟨e, hm, rfl⟩, ?_⟩
  have h1 : (e.key, e.val) ∈ T.map (fun p => (ek p.1, ev p.2)) := by rw [← he]; exact List.mem_map.2 ⟨e, hm, rfl⟩
  obtain ⟨p, _, hp⟩ := List.mem_map.1 h1
  have h2 := congrArg Prod.fst hp
  have h3 := congrArg Prod.snd hp
  simp only [] at h2 h3
  unfold dec decV
  rw [← h2, ← h3]
  exact ⟨rfl, rfl⟩
theorem It.start {w : World} {b : Nat} {T : Tms} (h : MapIs ek ev domS w b T) : ∃ w1, (Instr.range 31 (.map (some b))).run Try.prog w = .ok (.pointer (some ⟨w.heap.size, 0, none⟩)) w1 ∧ It w1 w.heap.size b T [] ∧ Below w.heap.size w w1 ∧ w1.heap.size = w.heap.size + 1 := by
  obtain ⟨es, clock, hb, he, hd, hn, hs1, hs2, hs3⟩ := h
  refine ⟨_, run_range_map (P := Try.prog) w 31 9 2 b es clock Try.underlying31 hb, ⟨es, clock, clock, #[], clock, ?_, blk_new _ _, hs1, Nat.le_refl _, Nat.le_refl _, hs2, he, ?_⟩, below_alloc (Below.refl _ _) _, by simp⟩
  · exact (Below.heap_alloc _ _ b (blk_lt hb)).trans hb
  · unfold sees
    simp
theorem It.move {w w1 : World} {r b : Nat} {T D : Tms} (h : It w r b T D) (hb : w1.heap[b]? = w.heap[b]?) (hr : w1.heap[r]? = w.heap[r]?) : It w1 r b T D := by
  obtain ⟨es, clock, since, seen, c0, h1, h2, h3⟩ := h
  exact ⟨es, clock, since, seen, c0, hb.trans h1, hr.trans h2, h3⟩
theorem It.ne {w : World} {r b : Nat} {T D : Tms} (h : It w r b T D) : r ≠ b := fun e => by
  obtain ⟨es, clock, since, seen, c0, h1, h2, h3⟩ := h
  rw [e, h1] at h2
  cases h2
theorem It.far {w : World} {r b : Nat} {T D : Tms} (h : It w r b T D) {g t : Nat} {cs : Array Value} {z : Nat × Nat} (hg : w.heap[g]? = some (.cells cs t z)) : g ≠ r ∧ g ≠ b := by
  obtain ⟨es, clock, since, seen, c0, h1, h2, h3⟩ := h
  exact ⟨fun e => (by rw [e, h2] at hg; cases hg), fun e => (by rw [e, h1] at hg; cases hg)⟩
theorem It.lt {w : World} {r b : Nat} {T D : Tms} (h : It w r b T D) : r < w.heap.size ∧ b < w.heap.size := by
  obtain ⟨es, clock, since, seen, c0, h1, h2, h3⟩ := h
  exact ⟨blk_lt h2, blk_lt h1⟩
theorem It.next {w : World} {r b : Nat} {T D : Tms} (h : It w r b T D) (ty : TypeId) :
    (D.Perm T ∧ (Instr.next (.pointer (some ⟨r, 0, none⟩)) false ty).run Try.prog w = .ok (.tuple #[.bool false]) w) ∨
    ∃ k d w2, (k, d) ∈ T ∧ (Instr.next (.pointer (some ⟨r, 0, none⟩)) false ty).run Try.prog w = .ok (.tuple #[.bool true, .string k, .int .i64 d]) w2 ∧ (Instr.entry (.pointer (some ⟨r, 0, none⟩))).run Try.prog w2 = .ok (.tuple #[.string k, .int .i64 d]) w2 ∧ It w2 r b T (D ++ [(k, d)]) ∧ D.length < T.length ∧ w.grownBy w2 (some r) := by
  have hne := h.ne
  obtain ⟨es, clock, since, seen, c0, hb, hr, hold, hsc, hsk, hnb, he, hD⟩ := h
  rcases run_next_at (P := Try.prog) w ty r b since c0 seen es clock hr hb hold hsc with ⟨h0, hrun⟩ | ⟨e, hme, w1, hal, hrun⟩
  · refine .inl ⟨?_, hrun⟩
    have h1 : sees es seen = es.toList := List.filter_eq_self.2 (fun x hx => all_seen es seen h0 x hx)
    rw [h1, dec_all he] at hD
    exact hD
  · obtain ⟨hem, hes⟩ := mem_left hme
    obtain ⟨h1, h2, h3⟩ := dec_key he hem
    have hr1 : w1.heap[r]? = some (.mapIter (some b) since seen c0) := by rcases hal with rfl | rfl <;> exact hr
    have hb1 : w1.heap[b]? = some (.map es clock) := by rcases hal with rfl | rfl <;> exact hb
    have hset : ∀ o : Obj, (ChangeMaps.setBlock w1 r o).heap[r]? = some o := fun o => by
      simp [ChangeMaps.setBlock, blk_lt hr1]
    have hoth : ∀ (o : Obj) (k : Nat), k ≠ r → (ChangeMaps.setBlock w1 r o).heap[k]? = w1.heap[k]? := fun o k hk => by
      simp only [ChangeMaps.setBlock]
      rw [Array.getElem?_setIfInBounds_ne (fun e => hk e.symm)]
    have hb2 := (hoth (.mapIter (some b) since (seen.push e.born) clock) b (fun e => hne e.symm)).trans hb1
    have hpm := sees_push hes es.toList hnb hem
    have hit : It (ChangeMaps.setBlock w1 r (.mapIter (some b) since (seen.push e.born) clock)) r b T (D ++ [dec e]) := by
      refine ⟨es, clock, since, seen.push e.born, clock, hb2, hset _, hold, hsk, hsk, hnb, he, ?_⟩
      have h4 : (D ++ [dec e]).Perm (dec e :: D) := List.perm_append_singleton _ _
      refine h4.trans ((hD.cons (dec e)).trans ?_)
      have := hpm.map dec
      rw [List.map_cons] at this
      exact this.symm
    refine .inr ⟨(dec e).1, (dec e).2, _, h1, ?_, ?_, hit, ?_, ?_⟩
    · rw [← h2, ← h3]; exact hrun
    · rw [← h2, ← h3]; exact run_entry_at _ r b since seen es clock e (hset _) hb2 hem hnb
    · have h5 := hD.length_eq
      have h6 := hpm.length_eq
      rw [List.length_map] at h5
      have h7 : (es.toList.filter (fun x => (seen.push e.born).contains x.born)).length ≤ es.toList.length := List.length_filter_le _ _
      have h8 : es.toList.length = T.length := by have := congrArg List.length he; simpa using this
      rw [List.length_cons] at h6
      unfold sees at h5
      omega
    · rcases hal with rfl | rfl
      · exact ⟨rfl, rfl, rfl, by simp [ChangeMaps.setBlock], fun i _ hi => hoth _ i (fun e1 => hi (by rw [e1]))⟩
      · exact ⟨rfl, rfl, rfl, by simp [ChangeMaps.setBlock], fun i _ hi => hoth _ i (fun e1 => hi (by rw [e1]))⟩
/-! ### a row, sorted -/
section
variable {α : Type} [Inhabited α] {enc : α → Value} {w : World} {g n : Nat} {os : Array Obj} {cur : Array Value} {e : TypeId}
theorem holds_row {ds : List α} (hb : w.heap[g]? = some (.cells cur e (0, 0))) (ht : cur.toList.take ds.length = ds.map enc) : Sort.Holds enc w g 0 ds.toArray := by
  intro j hj
  have hj' : j < ds.length := by simpa using hj
  refine ⟨?_, blk_frozen hb _⟩
  have h1 : (cur.toList.take ds.length)[j]? = (ds.map enc)[j]? := by rw [ht]
  rw [List.getElem?_take_of_lt hj', Array.getElem?_toList] at h1
  rw [Nat.zero_add, blk_cell hb j, h1]
  simp [hj']
theorem heap_srt (d : Array α) (hb : w.heap[g]? = some (.cells cur e (0, 0))) : (sortWorld enc w g 0 n d os).heap[g]? = some (.cells (Sort.putCells enc 0 d cur) e (0, 0)) := by
  have hg := blk_lt hb
  unfold sortWorld
  rw [Sort.heap_grow_old _ _ (by simpa using hg)]
  simp [Sort.putRow, Sort.mapBlock, Sort.ahead, Array.getElem?_modify, hb, Sort.onCells]
theorem grown_srt (d : Array α) : w.grownBy (sortWorld enc w g 0 n d os) (some g) := by
  unfold sortWorld
  refine ⟨rfl, rfl, rfl, by simp, fun k hk hne => ?_⟩
  rw [Sort.heap_grow_old _ _ (by simpa using hk)]
  have : g ≠ k := fun e => hne (by rw [e])
  simp [Sort.putRow, Sort.mapBlock, Sort.ahead, Array.getElem?_modify, this]
theorem take_srt (ts : List α) (h : ts.length ≤ cur.size) : (Sort.putCells enc 0 ts.toArray cur).toList.take ts.length = ts.map enc := by
  apply List.ext_getElem?
  intro j
  by_cases hj : j < ts.length
  · rw [List.getElem?_take_of_lt hj, Array.getElem?_toList]
    simp [Sort.putCells, hj, show j < cur.size by omega]
  · rw [List.getElem?_take_eq_none (by omega), List.getElem?_eq_none (by simp; omega)]
end
end Go.Proofs.Ytdfghndcengkaaa.Tmr
