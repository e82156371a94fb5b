/- The value of an expression. -/
import Derived.Test.YtdhlbhkpleoicaaDoorExForm
namespace Go.Proofs.YtdhlbhkpleoicaaDoor.Exp
open Go.RowKit Go.Proofs.YtdhlbhkpleoicaaDoorW.PrintWords Go.Proofs.YtdhlbhkpleoicaaDoorW.PrintLast Go.Proofs.YtdhlbhkpleoicaaDoorW.PrintMore Go.Proofs.YtdhlbhkpleoicaaDoor.PExprEvals
open Frm
set_option linter.unusedVariables false
set_option linter.unusedSimpArgs false
def bnd (n : Int) : Int := if n < -1000000000 ∨ n > 1000000000 then 3 else 0
def tru (b : Bool) : Int := if b then 1 else 0
theorem truth_calls (b : Bool) (w : World) : Calls Tryd.prog 33 #[.bool b] w fun e w' => e = .returned (.int .i64 (tru b)) ∧ Drawn0 w w' :=
  expr_truth.calls b (tru b) w (by unfold expr_truth.f tru; cases b <;> rfl)
theorem bound_f (vs : List S46) (n : Int) : expr_evaluator_bound.f vs 0 n = some (n, bnd n) := by
  unfold expr_evaluator_bound.f bnd
  by_cases h1 : n < -1000000000
  · simp [h1]
  · by_cases h2 : n > 1000000000
    · simp [h1, h2]
    · simp [h1, h2]
def findV (s : ByteArray) : List S46 → Nat → Int
  | [], _ => -1
  | x :: r, i => if decide (x.f0 = s) then (i : Int) else findV s r (i + 1)
theorem findV_drop (s : ByteArray) (L : List S46) (i : Nat) (h : i < L.length) : findV s (L.drop i) i = if decide ((rd_T46 L (i : Int)).f0 = s) then (i : Int) else findV s (L.drop (i + 1)) (i + 1) := by
  rw [List.drop_eq_getElem_cons h]
  have : rd_T46 L (i : Int) = L[i] := by simp [rd_T46, List.getD_eq_getElem?_getD, h]
  rw [this]
  rfl
theorem beq_str (x s : ByteArray) : (x.toList == s.toList) = decide (x = s) := by
  by_cases h : x = s
  · rw [decide_eq_true h, h]
    exact beq_self_eq_true _
  · rw [decide_eq_false h]
    exact beq_eq_false_iff_ne.2 (fun e => h ((bytes_iff _ _).1 e))
set_option maxHeartbeats 1000000 in
set_option maxRecDepth 100000 in
theorem load1_calls (x s : ByteArray) (n : Int) (b : Nat) (W : World) (hb : W.heap[b]? = some (.cells #[.string s] 9 (0, 0))) :
    Calls Tryd.prog 49 #[.agg #[.string x, .int .i64 n], .pointer (some ⟨b, 0, none⟩)] W fun e w' => e = .returned (.bool (decide (x = s))) ∧ Below W.heap.size W w' := by
  have c0 : W.cell? ⟨b, 0, none⟩ = some (.string s) := (blk_cell hb 0).trans rfl
  have hl : b < W.heap.size := blk_lt hb
  go_enter Tryd.func49, Tryd.ntmps49
  go_wp2
  go_ret
  exact ⟨by rw [← beq_str]; rfl, below_alloc (Below.refl _ _) _⟩
set_option maxHeartbeats 2000000 in
set_option maxRecDepth 100000 in
theorem IndexV_calls (s : ByteArray) (b : Nat) (L : List S46) (hl : L.length ≤ 140737488351232) (A : Option Addr) (cp : Nat) (w : World) (hC : Kd.C k46 w A L.length L) (hb : w.heap[b]? = some (.cells #[.string s] 9 (0, 0))) :
    Calls Tryd.prog 48 #[.slice A L.length cp, .func (.func 49) #[] #[.pointer (some ⟨b, 0, none⟩)]] w fun e w' => e = .returned (.int .i64 (findV s L 0)) ∧ Below w.heap.size w w' := by
  have hC' := Aside0.mk hC
  have hb' := Aside0.mk hb
  clear hC hb
  go_enter Tryd.func48, Tryd.ntmps48
  go_wp2_with fail
  go_loopg [8] (L.length + 1) (fun kq v8 w' => ∃ (i : Nat), v8 = .int .i64 (i : Int) ∧ Aside0 (kq + i = L.length + 1) ∧ Aside0 (i ≤ L.length) ∧ Aside0 (findV s (L.drop i) i = findV s L 0) ∧ Aside0 (Below w.heap.size w w'))
  case atStart => exact ⟨0, rfl, ⟨by omega⟩, ⟨by omega⟩, ⟨rfl⟩, ⟨Below.refl _ _⟩⟩
  case round =>
    obtain ⟨i, rfl, hk, hi, hx, hB⟩ := hrel
    by_cases hlt : i < L.length
    · have hd : decide ((i : Int) < (L.length : Int)) = true := decide_eq_true (by omega)
      have hd' : decide (i < L.length) = true := decide_eq_true hlt
      cases gk with
      | zero => exact absurd hk.out (by omega)
      | succ k1 =>
        have hlt' := Aside0.mk hlt
        have p1 : 0 ≤ (i : Int) := by omega
        have q1 : (i : Int) < (L.length : Int) := by omega
        obtain ⟨ad, e1, y0, y1⟩ := at_T46 (Kd.C_below hC'.out hB.out) (i : Int) p1 q1
        cases e1
        rw [show ((i : Int)).toNat = i from by simp] at y0 y1
        have hst := findV_drop s L i hlt
        rw [hx.out] at hst
        obtain ⟨x, hxx⟩ : ∃ x, rd_T46 L (i : Int) = x := ⟨_, rfl⟩
        rw [hxx] at hst y0 y1
        obtain ⟨xs, xn⟩ := x
        simp only [] at hst y0 y1
        have hc := Aside0.mk (load1_calls xs s xn b wr (blk_below hb'.out hB.out))
        obtain ⟨bb, hbb⟩ : ∃ bb, decide (xs = s) = bb := ⟨_, rfl⟩
        rw [hbb] at hst hc
        have hst' := Aside0.mk hst
        clear hst hxx hbb
        cases bb with
        | true =>
          have e1 := hst'.out
          rw [if_pos rfl] at e1
          have e1' := Aside0.mk e1
          clear e1
          go_wp2_with (first
            | (go_at_call 49; (with_reducible refine hc.out.mono ?_); rintro e w1 ⟨rfl, hb1⟩; have hB1 : Aside0 (Below w.heap.size w w1) := ⟨below_step hB.out hb1⟩; clear hb1)
            | fail)
          go_ret
          have e1 := e1'.out
          exact ⟨by rw [e1]; rfl, hB1.out⟩
        | false =>
          have e1 := hst'.out
          rw [if_neg (by decide)] at e1
          have e1' := Aside0.mk e1
          clear e1
          go_wp2_with (first
            | (go_at_call 49; (with_reducible refine hc.out.mono ?_); rintro e w1 ⟨rfl, hb1⟩; have hB1 : Aside0 (Below w.heap.size w w1) := ⟨below_step hB.out hb1⟩; clear hb1)
            | fail)
          go_roundg k1
          case measure => have := hk.out; omega
          case rel => exact ⟨i + 1, by go_num, ⟨by have := hk.out; omega⟩, ⟨by have := hlt'.out; omega⟩, ⟨e1'.out.symm⟩, hB1⟩
    · have hd : decide ((i : Int) < (L.length : Int)) = false := decide_eq_false (by omega)
      have hd' : decide (i < L.length) = false := decide_eq_false hlt
      obtain rfl : i = L.length := by have := hi.out; omega
      have e1 := hx.out
      rw [List.drop_length] at e1
      go_wp2
      go_ret
      exact ⟨by rw [← e1]; rfl, hB.out⟩
/-- A variable's number, and its error. -/
def look (vs : List S46) (s : ByteArray) : Int × Int :=
  let j := findV s vs 0
  if j < 0 then (0, 5) else ((rd_T46 vs j).f1, bnd (rd_T46 vs j).f1)
theorem findV_range (s : ByteArray) : ∀ (L : List S46) (i : Nat), findV s L i < i + L.length ∧ (findV s L i < 0 ∨ (i : Int) ≤ findV s L i)
  | [], i => by simp [findV]; omega
  | x :: r, i => by
    unfold findV
    split
    · simp; omega
    · have := findV_range s r (i + 1)
      simp only [List.length_cons]
      push_cast at this ⊢
      omega
/-- What an evaluator's call keeps. -/
structure Ev (w0 : World) (g : Nat) (vs : List S46) (e : Int) (w w' : World) : Prop where
  is : IsS54 w0 w' g vs e
  below : Below w0.heap.size w0 w'
  keep : KeepBut w w' g none
section
variable {w0 w w1 w2 : World} {g : Nat} {vs : List S46} {e e1 : Int}
theorem Ev.refl (hS : IsS54 w0 w g vs e) (hB : Below w0.heap.size w0 w) : Ev w0 g vs e w w := ⟨hS, hB, KeepBut.refl _ _ _⟩
theorem Ev.step (h : Ev w0 g vs e w w1) (hb : Below w1.heap.size w1 w2) : Ev w0 g vs e w w2 := ⟨h.is.below hb, below_step h.below hb, h.keep.trans (KeepBut.of_below hb g none) (.inl rfl)⟩
theorem Ev.set (h : Ev w0 g vs e w w1) (x : Int) : Ev w0 g vs x w (w1.setCell ⟨g, 1, none⟩ (.int .i64 x)) := ⟨h.is.set_1 x, h.below.setCell h.is.ge _, h.keep.set_ _ _⟩
theorem Ev.trans (h : Ev w0 g vs e w w1) (k : Ev w0 g vs e1 w1 w2) : Ev w0 g vs e1 w w2 := ⟨k.is, k.below, h.keep.trans k.keep (.inl rfl)⟩
theorem Ev.blk (h : Ev w0 g vs e w w1) {b : Nat} {o : Obj} (hb : w.heap[b]? = some o) (hne : b ≠ g) : w1.heap[b]? = some o := (h.keep.2 b (blk_lt hb) hne (by simp)).trans hb
theorem Ev.cells (h : Ev w0 g vs e w w1) : ∃ A c, w1.heap[g]? = some (.cells #[.slice A vs.length c, .int .i64 e] 54 (0, 0)) ∧ w1.cell? ⟨g, 0, none⟩ = some (.slice A vs.length c) ∧ w1.cell? ⟨g, 1, none⟩ = some (.int .i64 e) ∧ w1.frozen? ⟨g, 1, none⟩ = false ∧ Kd.C k46 w1 A vs.length vs ∧ g < w1.heap.size := by
  obtain ⟨A, c, h1, h2, h3⟩ := h.is
  exact ⟨A, c, h1, (blk_cell h1 0).trans rfl, (blk_cell h1 1).trans rfl, blk_frozen h1 1, Kd.C_below h3 h.below, blk_lt h1⟩
end
theorem bound_calls (w0 w : World) (g : Nat) (vs : List S46) (n : Int) (W : World) (h : Ev w0 g vs 0 W w) : Calls Tryd.prog 50 #[.pointer (some ⟨g, 0, none⟩), .int .i64 n] w fun e w' => e = .returned (.int .i64 n) ∧ Ev w0 g vs (bnd n) W w' := by
  refine (expr_evaluator_bound.calls g vs 0 n n (bnd n) w0 w h.is h.below (bound_f vs n)).mono ?_
  rintro e w' ⟨rfl, h1, h2, h3⟩
  exact ⟨rfl, h1, h2, h.keep.trans h3 (.inl rfl)⟩
set_option maxHeartbeats 1000000 in
set_option maxRecDepth 100000 in
theorem load_calls (w0 w : World) (g : Nat) (vs : List S46) (s : ByteArray) (hvl : vs.length ≤ 140737488351232) (W : World) (h : Ev w0 g vs 0 W w) :
    Calls Tryd.prog 32 #[.pointer (some ⟨g, 0, none⟩), .string s] w fun e w' => e = .returned (.int .i64 (look vs s).1) ∧ Ev w0 g vs (look vs s).2 W w' := by
  obtain ⟨A, c, hblk, c0, c1, f1, hC, hgl⟩ := h.cells
  have hI := Aside0.mk (IndexV_calls s w.heap.size vs hvl A c (w.alloc (.cells #[.string s] 9)) (Kd.C_below hC (below_alloc (Below.refl _ _) _)) (blk_new _ _))
  have hr := findV_range s vs 0
  unfold look
  simp only []
  obtain ⟨j, hj⟩ : ∃ j, findV s vs 0 = j := ⟨_, rfl⟩
  rw [hj] at hI hr ⊢
  have h' := Aside0.mk h
  have hC' := Aside0.mk hC
  clear h hC hblk hj
  have hE1 := Aside0.mk (h'.out.step (below_alloc (Below.refl _ (w)) (.cells #[.string s] 9)))
  by_cases h0 : j < 0
  · have d0 : decide (j < 0) = true := decide_eq_true h0
    rw [if_pos h0]
    go_enter Tryd.func32, Tryd.ntmps32
    go_wp2_with (first | (go_at_call 48; (with_reducible refine hI.out.mono ?_); rintro e w1 ⟨rfl, hb1⟩; have hE2 := Aside0.mk (hE1.out.step hb1); obtain ⟨A2, c2, _, a0, a1, g1, _, hgl2⟩ := hE2.out.cells; clear hb1) | fail)
    go_ret
    exact ⟨rfl, hE2.out.set 5⟩
  · have d0 : decide (j < 0) = false := decide_eq_false h0
    rw [if_neg h0]
    have p1 : 0 ≤ j := by omega
    have q1 : j < (vs.length : Int) := by omega
    have h0' := Aside0.mk h0
    go_enter Tryd.func32, Tryd.ntmps32
    go_wp2_with (first
      | (go_at_call 48; (with_reducible refine hI.out.mono ?_); rintro e w1 ⟨rfl, hb1⟩; have hE2 := Aside0.mk (hE1.out.step hb1); obtain ⟨A2, c2, _, a0, a1, g1, hC2, hgl2⟩ := hE2.out.cells; obtain ⟨ad, e1, y0, y1⟩ := at_T46 hC2 j p1 q1; cases e1; clear hb1 hC2)
      | (go_at_call 50; (with_reducible refine (bound_calls w0 _ g vs _ W hE2.out).mono ?_); rintro e w2 ⟨rfl, hE3⟩) | fail)
    go_ret
    exact ⟨rfl, hE3⟩
end Go.Proofs.YtdhlbhkpleoicaaDoor.Exp
