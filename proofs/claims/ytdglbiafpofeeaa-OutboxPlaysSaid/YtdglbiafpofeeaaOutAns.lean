/- Answer, walked. -/
import Derived.Test.YtdglbiafpofeeaaOutReal
namespace Go.Proofs.Ytdglbiafpofeeaa.Obx
open Go.RowKit Go.Proofs.YtdglbiafpofeeaaW.PrintWords Go.Proofs.YtdglbiafpofeeaaW.PrintLast Go.Proofs.YtdglbiafpofeeaaW.PrintMore Go.Proofs.Ytdglbiafpofeeaa.POutboxNil
open Frm
set_option linter.unusedVariables false
set_option linter.unusedSimpArgs false
theorem Fk.set_new {T : List Nat} {ok : Nat → Prop} {w w1 : World} (h : Fk T ok w w1) {g : Nat} (hg : w.heap.size ≤ g) (hk : ok g) (j : Nat) (u : Value) : Fk T ok w (w1.setCell ⟨g, j, none⟩ u) :=
  ⟨h.fr.set_new hg (Nat.zero_le _) j u, h.kp.set hk j u⟩
theorem OAt.wide {t e : Nat} {ok ok' : Nat → Prop} {w : World} {p : Nat} {L : List Lt} {v : Value} (h : OAt t e ok w p L v) (H : ∀ k, ok k → ok' k) : OAt t e ok' w p L v := ⟨H p h.pk, h.blk, Kd.R_mono h.row (fun k hk => ⟨H k hk.1, hk.2⟩)⟩
/-- A store elsewhere. -/
theorem OAt.far {t e : Nat} {ok : Nat → Prop} {w : World} {p : Nat} {L : List Lt} {v : Value} (h : OAt t e ok w p L v) {g : Nat} (hg : ¬ ok g) (j : Nat) (u : Value) : OAt t e ok (w.setCell ⟨g, j, none⟩ u) p L v :=
  ⟨h.pk, blk_far h.blk (p := ⟨g, j, none⟩) (fun e => hg (by have e' : p = g := e; rw [← e']; exact h.pk)) u, Kd.R_far h.row (p := ⟨g, j, none⟩) (fun k hk => fun e => hg (by have e' : k = g := e; rw [← e']; exact hk.1)) u⟩
set_option maxHeartbeats 2000000 in
set_option maxRecDepth 100000 in
theorem Answer_none (L : List Lt) (hg : Good L) (k i t : Int) (s : ByteArray) (a : Int) (o : Bool) (hk : (Lit.int .i64 k).wf = true) (hf : find (fits k i t a) L = none) (ok : Nat → Prop) (p : Nat) (w : World) (h : IsO 74 59 ok w p L) :
    Calls Try.prog 24 #[.pointer (some ⟨p, 0, none⟩), .agg #[.int .i64 k, .int .i64 i, .int .i64 t, .string s, .int .i64 a, .bool o]] w fun e w' =>
      e = .returned (.tuple #[.agg #[.int .i64 0, .int .i64 0, .int .i64 0, .int .i64 0, .string ⟨#[]⟩, .int .i64 0, .bool false], .bool false]) ∧ Below w.heap.size w w' := by
  obtain ⟨v, h⟩ := h
  obtain ⟨A, cap, rfl, hcap, hC⟩ := h.form
  have p0 := h.cell
  have hpl : p < w.heap.size := blk_lt h.blk
  have hl := hg.len
  obtain ⟨W, hW⟩ : ∃ W, (w.alloc (.cells #[.int .i64 k, .int .i64 i, .int .i64 t, .string s, .int .i64 a, .bool o] 28)).alloc (.cells #[.int .i64 0, .int .i64 0, .int .i64 0, .int .i64 0, .string ⟨#[]⟩, .int .i64 0, .bool false] 59) = W := ⟨_, rfl⟩
  have hBW : Below w.heap.size w W := by rw [← hW]; exact below_alloc (below_alloc (Below.refl _ _) _) _
  have hbW : W.heap[w.heap.size]? = some (.cells #[.int .i64 k, .int .i64 i, .int .i64 t, .string s, .int .i64 a, .bool o] 28 (0, 0)) := by rw [← hW]; exact blk_alloc (blk_new _ _) _
  have hrW : W.heap[w.heap.size + 1]? = some (.cells #[.int .i64 0, .int .i64 0, .int .i64 0, .int .i64 0, .string ⟨#[]⟩, .int .i64 0, .bool false] 59 (0, 0)) := by rw [← hW]; exact blk_new_at (by simp)
  have hidx := Index_45 (fits k i t a) (.pointer (some ⟨w.heap.size, 0, none⟩)) L (by omega) A cap W (Kd.C_below hC hBW) (fun W2 hB x hx => fit_calls x (hg.kind x hx) k i t s a o hk w.heap.size W2 (blk_below hbW hB))
  rw [hf] at hidx
  have hidx' := Aside0.mk hidx
  have hW' := Aside0.mk hW
  have hBW' := Aside0.mk hBW
  have hrW' := Aside0.mk hrW
  clear hf h hC hidx hW hBW hbW hrW hk
  go_enter Try.func24, Try.ntmps24
  go_wp2_with fail
  rw [hW'.out]
  refine hidx'.out.mono ?_
  rintro e w1 ⟨rfl, hb1⟩
  obtain ⟨z0, z1, z2, z3, z4, z5, z6⟩ := el_blk (blk_below hrW'.out hb1)
  have y0 := fun j => blk_frozen (blk_below hrW'.out hb1) j
  have hb1' := Aside0.mk hb1
  clear hb1
  unfold idxV
  simp only []
  go_wp2
  refine bodyPost_ret (v := .tuple #[.agg #[.int .i64 0, .int .i64 0, .int .i64 0, .int .i64 0, .string ⟨#[]⟩, .int .i64 0, .bool false], .bool false]) (by simp [results, Try.results24, go_sem, z0, z1, z2, z3, z4, z5, z6]) rfl ⟨rfl, ?_⟩
  have hb2 := below_step hBW'.out hb1'.out
  repeat (first | (with_reducible exact hb2) | (with_reducible refine Below.setCell ?_ (by simp) _))
set_option maxHeartbeats 4000000 in
set_option maxRecDepth 100000 in
theorem Answer_some (L : List Lt) (hg : Good L) (k i t : Int) (s : ByteArray) (a : Int) (o : Bool) (hk : (Lit.int .i64 k).wf = true) (j : Nat) (hf : find (fits k i t a) L = some j) (x : Lt) (hx : L[j]? = some x) (ok : Nat → Prop) (p : Nat) (w : World) (hok : ∀ k, w.heap.size ≤ k → ok k) (h : IsO 74 59 ok w p L) :
    Calls Try.prog 24 #[.pointer (some ⟨p, 0, none⟩), .agg #[.int .i64 k, .int .i64 i, .int .i64 t, .string s, .int .i64 a, .bool o]] w fun e w' =>
      e = .returned (.tuple #[.agg #[.int .i64 x.to, .int .i64 x.kind, .int .i64 x.inst, .int .i64 x.turn, .string x.name, .int .i64 x.att, .bool x.ok], .bool true]) ∧ IsO 74 59 ok w' p (L.eraseIdx j) ∧ Fk [74, 59] ok w w' := by
  obtain ⟨v, h⟩ := h
  have hjl : j < L.length := (List.getElem?_eq_some_iff.1 hx).1
  obtain ⟨g, cap, rfl, _, hgl, cells, hgc⟩ := Kd.R_form h.row (by omega)
  have hC := (Kd.R_reads' h.row).2.2
  have p0 := h.cell
  have hpl : p < w.heap.size := blk_lt h.blk
  have hl := hg.len
  obtain ⟨W, hW⟩ : ∃ W, (w.alloc (.cells #[.int .i64 k, .int .i64 i, .int .i64 t, .string s, .int .i64 a, .bool o] 28)).alloc (.cells #[.int .i64 0, .int .i64 0, .int .i64 0, .int .i64 0, .string ⟨#[]⟩, .int .i64 0, .bool false] 59) = W := ⟨_, rfl⟩
  have hBW : Below w.heap.size w W := by rw [← hW]; exact below_alloc (below_alloc (Below.refl _ _) _) _
  have hbW : W.heap[w.heap.size]? = some (.cells #[.int .i64 k, .int .i64 i, .int .i64 t, .string s, .int .i64 a, .bool o] 28 (0, 0)) := by rw [← hW]; exact blk_alloc (blk_new _ _) _
  have hrW : W.heap[w.heap.size + 1]? = some (.cells #[.int .i64 0, .int .i64 0, .int .i64 0, .int .i64 0, .string ⟨#[]⟩, .int .i64 0, .bool false] 59 (0, 0)) := by rw [← hW]; exact blk_new_at (by simp)
  have hidx := Index_45 (fits k i t a) (.pointer (some ⟨w.heap.size, 0, none⟩)) L (by omega) (some ⟨g, 0, none⟩) cap W (Kd.C_below hC hBW) (fun W2 hB x hx => fit_calls x (hg.kind x hx) k i t s a o hk w.heap.size W2 (blk_below hbW hB))
  rw [hf] at hidx
  have hidx' := Aside0.mk hidx
  have hW' := Aside0.mk hW
  have hBW' := Aside0.mk hBW
  have hrW' := Aside0.mk hrW
  have h' := Aside0.mk h
  have hx' := Aside0.mk hx
  have hd1 : decide ((j : Int) < 0) = false := decide_eq_false (by omega)
  have hwr : IntKind.i64.wrap ((j : Int) + 1) = (j : Int) + 1 := wrap_small j (by omega)
  clear hf h hC hidx hW hBW hbW hrW hk hgc hx
  go_enter Try.func24, Try.ntmps24
  go_wp2_with fail
  rw [hW'.out]
  refine hidx'.out.mono ?_
  rintro e w1 ⟨rfl, hb1⟩
  have hB1 : Aside0 (Below w.heap.size w w1) := ⟨below_step hBW'.out hb1⟩
  have hO1 := Aside0.mk (h'.out.below hB1.out)
  have hr1 := Aside0.mk (blk_below hrW'.out hb1)
  have hs1 : w.heap.size + 1 < w1.heap.size := blk_lt hr1.out
  obtain ⟨y0, y1, y2, y3, y4, y5, y6⟩ := el7 hO1.out.row hx'.out
  have p1 := hO1.out.cell
  have hp1 : p < w1.heap.size := by omega
  have hg1 : g < w1.heap.size := by omega
  clear hb1
  unfold idxV
  simp only []
  obtain ⟨xt, xk, xi, xu, xs, xa, xo⟩ := x
  simp only [] at y0 y1 y2 y3 y4 y5 y6
  obtain ⟨W2, hW2⟩ : ∃ W2, w1.alloc (.cells #[.int .i64 xt, .int .i64 xk, .int .i64 xi, .int .i64 xu, .string xs, .int .i64 xa, .bool xo] 59) = W2 := ⟨_, rfl⟩
  have hB2 : Below w1.heap.size w1 W2 := by rw [← hW2]; exact below_alloc (Below.refl _ _) _
  have hx2 := blk_new w1 (.cells #[.int .i64 xt, .int .i64 xk, .int .i64 xi, .int .i64 xu, .string xs, .int .i64 xa, .bool xo] 59)
  rw [hW2] at hx2
  have hO2 := Aside0.mk (hO1.out.below hB2)
  have hr2 := Aside0.mk (blk_below hr1.out hB2)
  have hB2' := Aside0.mk hB2
  have hx2' := Aside0.mk hx2
  have hW2' := Aside0.mk hW2
  have hdl := Aside0.mk (Delete_calls g L.length cap j L _ W2 hO2.out.row hjl (by omega))
  clear hB2 hx2 hW2
  go_wp2_with fail
  rw [hW2'.out]
  refine hdl.out.mono ?_
  rintro e w3 ⟨rfl, hR3, hg3⟩
  have hne1 : w.heap.size + 1 ≠ g := by omega
  have hne2 : w1.heap.size ≠ g := by omega
  have hne3 : p ≠ w.heap.size + 1 := by omega
  have hs3 : W2.heap.size ≤ w3.heap.size := hg3.size
  have hs2 : w1.heap.size ≤ W2.heap.size := hB2'.out.size
  have hp3 := blk_grown hO2.out.blk hg3 (by intro e; cases e; exact (hO2.out.row.1 p (by simp [Value.ownBlock])).2 rfl)
  have hr3 := blk_grown hr2.out hg3 (by simpa using hne1)
  have hx3 := blk_grown hx2'.out hg3 (by simpa using hne2)
  obtain ⟨z0, z1, z2, z3, z4, z5, z6⟩ := el_blk hr3
  obtain ⟨u0, u1, u2, u3, u4, u5, u6⟩ := el_blk hx3
  have yz := fun j => blk_frozen hr3 j
  have p3 : w3.cell? ⟨p, 0, none⟩ = some (.slice (some ⟨g, 0, none⟩) L.length cap) := (blk_cell hp3 0).trans rfl
  have f3 : w3.frozen? ⟨p, 0, none⟩ = false := blk_frozen hp3 0
  have hO3 := Aside0.mk (hO2.out.store hp3 hR3)
  have hk3 : Fk [74, 59] ok w (w3.setCell ⟨p, 0, none⟩ (.slice (some ⟨g, 0, none⟩) (L.length - 1) cap)) :=
    (((Fk.of_below (T := [74, 59]) (ok := ok) (hB1.out.trans (hB2'.out.mono (by omega)))).row (v := .slice (some ⟨g, 0, none⟩) L.length cap) hO2.out.row (by simp) (fun k hk => hk.1) hg3).set hp3 (by simp) hO2.out.pk 0 _)
  have hk3' := Aside0.mk hk3
  clear hR3 hg3 hk3 p0 p1 y0 y1 y2 y3 y4 y5 y6
  go_wp2
  refine bodyPost_ret (v := .tuple #[.agg #[.int .i64 xt, .int .i64 xk, .int .i64 xi, .int .i64 xu, .string xs, .int .i64 xa, .bool xo], .bool true]) (by simp [results, Try.results24, go_sem, z0, z1, z2, z3, z4, z5, z6]) rfl ⟨rfl, ?_, ?_⟩
  · have hO4 : OAt 74 59 (fun k => ok k ∧ k ≠ w.heap.size + 1) _ p (L.eraseIdx j) _ := ⟨⟨hO3.out.pk, hne3⟩, hO3.out.blk, Kd.R_mono (Kd.R_far1 hO3.out.row kLt_E (g := w.heap.size + 1) (by simpa [Value.ownBlock] using hne1)) (fun k hk => ⟨⟨hk.1.1, hk.2⟩, hk.1.2⟩)⟩
    have hnr : ¬ (ok (w.heap.size + 1) ∧ w.heap.size + 1 ≠ w.heap.size + 1) := fun h => h.2 rfl
    refine ⟨.slice (some ⟨g, 0, none⟩) (L.length - 1) cap, OAt.wide (ok := fun k => ok k ∧ k ≠ w.heap.size + 1) ?_ (fun k hk => hk.1)⟩
    repeat (first | (with_reducible exact hO4) | (with_reducible refine OAt.far ?_ hnr _ _))
  · have hok1 : ok (w.heap.size + 1) := hok _ (by omega)
    repeat (first | (with_reducible exact hk3'.out) | (with_reducible refine Fk.set_new ?_ (by omega) hok1 _ _))
end Go.Proofs.Ytdglbiafpofeeaa.Obx
