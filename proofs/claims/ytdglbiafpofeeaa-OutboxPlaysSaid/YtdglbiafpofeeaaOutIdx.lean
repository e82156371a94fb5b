/- The closures of the outbox, and IndexFunc at each of them. -/
import Derived.Test.YtdglbiafpofeeaaOutRep
import Derived.Deep.DeepCutAuto
namespace Go.Proofs.Ytdglbiafpofeeaa.Obx
open Go.RowKit Go.Proofs.YtdglbiafpofeeaaW.PrintWords Go.Proofs.YtdglbiafpofeeaaW.PrintLast Go.Proofs.YtdglbiafpofeeaaW.PrintMore Go.Proofs.Ytdglbiafpofeeaa.POutboxNil
open Frm
set_option linter.unusedVariables false
set_option linter.unusedSimpArgs false
theorem msg_cells {w : World} {b : Nat} {k i t : Int} {s : ByteArray} {a : Int} {o : Bool} (h : w.heap[b]? = some (.cells #[.int .i64 k, .int .i64 i, .int .i64 t, .string s, .int .i64 a, .bool o] 28 (0, 0))) :
    w.cell? ⟨b, 0, none⟩ = some (.int .i64 k) ∧ w.cell? ⟨b, 1, none⟩ = some (.int .i64 i) ∧ w.cell? ⟨b, 2, none⟩ = some (.int .i64 t) ∧ w.cell? ⟨b, 3, none⟩ = some (.string s) ∧ w.cell? ⟨b, 4, none⟩ = some (.int .i64 a) ∧ w.cell? ⟨b, 5, none⟩ = some (.bool o) :=
  ⟨(blk_cell h 0).trans rfl, (blk_cell h 1).trans rfl, (blk_cell h 2).trans rfl, (blk_cell h 3).trans rfl, (blk_cell h 4).trans rfl, (blk_cell h 5).trans rfl⟩
set_option maxHeartbeats 1000000 in
set_option maxRecDepth 100000 in
/-- Put's test. -/
theorem twin_calls (x : Lt) (k i t : Int) (s : ByteArray) (a : Int) (o : Bool) (b : Nat) (w : World) (h : w.heap[b]? = some (.cells #[.int .i64 k, .int .i64 i, .int .i64 t, .string s, .int .i64 a, .bool o] 28 (0, 0))) :
    Calls Try.prog 49 #[.agg #[.int .i64 x.to, .int .i64 x.kind, .int .i64 x.inst, .int .i64 x.turn, .string x.name, .int .i64 x.att, .bool x.ok], .pointer (some ⟨b, 0, none⟩)] w fun e w' => e = .returned (.bool (twin k i t x)) ∧ Below w.heap.size w w' := by
  obtain ⟨xt, xk, xi, xu, xs, xa, xo⟩ := x
  obtain ⟨c0, c1, c2, _, _, _⟩ := msg_cells h
  have hb : b < w.heap.size := blk_lt h
  unfold twin
  simp only []
  clear h
  by_cases h1 : xk = k
  · subst h1
    by_cases h2 : xi = i
    · subst h2
      go_enter Try.func49, Try.ntmps49
      go_wp2
      go_ret
      exact ⟨by simp, by repeat (first | exact Below.refl _ _ | refine below_alloc ?_ _)⟩
    · have e2 : (xi == i) = false := by simpa using h2
      go_enter Try.func49, Try.ntmps49
      go_wp2
      go_ret
      exact ⟨by simp [e2], by repeat (first | exact Below.refl _ _ | refine below_alloc ?_ _)⟩
  · have e1 : (xk == k) = false := by simpa using h1
    go_enter Try.func49, Try.ntmps49
    go_wp2
    go_ret
    exact ⟨by simp [e1], by repeat (first | exact Below.refl _ _ | refine below_alloc ?_ _)⟩
set_option maxHeartbeats 1000000 in
set_option maxRecDepth 100000 in
/-- Forget's test. -/
theorem inst_calls (x : Lt) (n : Int) (b : Nat) (w : World) (h : w.heap[b]? = some (.cells #[.int .i64 n] 3 (0, 0))) :
    Calls Try.prog 51 #[.agg #[.int .i64 x.to, .int .i64 x.kind, .int .i64 x.inst, .int .i64 x.turn, .string x.name, .int .i64 x.att, .bool x.ok], .pointer (some ⟨b, 0, none⟩)] w fun e w' => e = .returned (.bool (x.inst == n)) ∧ Below w.heap.size w w' := by
  obtain ⟨xt, xk, xi, xu, xs, xa, xo⟩ := x
  have c0 : w.cell? ⟨b, 0, none⟩ = some (.int .i64 n) := (blk_cell h 0).trans rfl
  have hb : b < w.heap.size := blk_lt h
  simp only []
  clear h
  go_enter Try.func51, Try.ntmps51
  go_wp2
  go_ret
  exact ⟨rfl, by repeat (first | exact Below.refl _ _ | refine below_alloc ?_ _)⟩
theorem wrap_back {k y : Int} (hk : (Lit.int .i64 k).wf = true) (hy : y = 1 ∨ y = 2) : (IntKind.i64.wrap (k - 2) == y) = (k == y + 2) := by
  have h1 : -9223372036854775808 ≤ k ∧ k ≤ 9223372036854775807 := by simpa [Lit.wf, IntKind.min, IntKind.max, IntKind.signed, IntKind.bits] using hk
  have h2 : IntKind.i64.wrap (k - 2) = (k - 2 + 9223372036854775808) % 18446744073709551616 - 9223372036854775808 := by
    simp only [IntKind.wrap, IntKind.bits, IntKind.signed]
    simp
    omega
  rw [h2, Bool.eq_iff_iff, beq_iff_eq, beq_iff_eq]
  omega
set_option maxHeartbeats 1000000 in
set_option maxRecDepth 100000 in
theorem Fits_calls (x : Lt) (hx : x.kind = 1 ∨ x.kind = 2) (k i t : Int) (s : ByteArray) (a : Int) (o : Bool) (hk : (Lit.int .i64 k).wf = true) (w : World) :
    Calls Try.prog 46 #[.agg #[.int .i64 k, .int .i64 i, .int .i64 t, .string s, .int .i64 a, .bool o], .agg #[.int .i64 x.kind, .int .i64 x.inst, .int .i64 x.turn, .string x.name, .int .i64 x.att, .bool x.ok]] w fun e w' => e = .returned (.bool (fits k i t a x)) ∧ Below w.heap.size w w' := by
  have hw := wrap_back hk hx
  obtain ⟨xt, xk, xi, xu, xs, xa, xo⟩ := x
  unfold fits
  simp only [] at hw ⊢
  rw [← hw]
  obtain ⟨y, hy⟩ : ∃ y, IntKind.i64.wrap (k - 2) = y := ⟨_, rfl⟩
  rw [hy]
  clear hw hx hk
  by_cases h0 : y = xk
  · have e0 : (y == xk) = true := by simpa using h0
    by_cases h1 : i = xi
    · subst h1
      by_cases h2 : t = xu
      · subst h2
        by_cases h3 : a = xa
        · subst h3
          go_enter Try.func46, Try.ntmps46
          go_wp2
          go_ret
          exact ⟨by simp [e0], by repeat (first | exact Below.refl _ _ | refine below_alloc ?_ _)⟩
        · have e3 : (a == xa) = false := by simpa using h3
          go_enter Try.func46, Try.ntmps46
          go_wp2
          go_ret
          exact ⟨by simp [e0, e3], by repeat (first | exact Below.refl _ _ | refine below_alloc ?_ _)⟩
      · have e2 : (t == xu) = false := by simpa using h2
        go_enter Try.func46, Try.ntmps46
        go_wp2
        go_ret
        exact ⟨by simp [e0, e2], by repeat (first | exact Below.refl _ _ | refine below_alloc ?_ _)⟩
    · have e1 : (i == xi) = false := by simpa using h1
      go_enter Try.func46, Try.ntmps46
      go_wp2
      go_ret
      exact ⟨by simp [e0, e1], by repeat (first | exact Below.refl _ _ | refine below_alloc ?_ _)⟩
  · have e0 : (y == xk) = false := by simpa using h0
    go_enter Try.func46, Try.ntmps46
    go_wp2
    go_ret
    exact ⟨by simp [e0], by repeat (first | exact Below.refl _ _ | refine below_alloc ?_ _)⟩
set_option maxHeartbeats 1000000 in
set_option maxRecDepth 100000 in
theorem rfits_calls (x : Lt) (hx : x.kind = 1 ∨ x.kind = 2) (k i t : Int) (s : ByteArray) (a : Int) (o : Bool) (w : World) :
    Calls Try.prog 53 #[.agg #[.int .i64 k, .int .i64 i, .int .i64 t, .string s, .int .i64 a, .bool o], .agg #[.int .i64 x.kind, .int .i64 x.inst, .int .i64 x.turn, .string x.name, .int .i64 x.att, .bool x.ok]] w fun e w' => e = .returned (.bool (fits k i t a x)) ∧ Below w.heap.size w w' := by
  obtain ⟨xt, xk, xi, xu, xs, xa, xo⟩ := x
  unfold fits
  simp only [] at hx ⊢
  obtain ⟨y, hy⟩ : ∃ y, xk + 2 = y := ⟨_, rfl⟩
  have hw : IntKind.i64.wrap (xk + 2) = y := by rw [← hy]; rcases hx with rfl | rfl <;> rfl
  rw [hy]
  clear hy hx
  by_cases h0 : k = y
  · have e0 : (k == y) = true := by simpa using h0
    by_cases h1 : i = xi
    · subst h1
      by_cases h2 : t = xu
      · subst h2
        by_cases h3 : a = xa
        · subst h3
          go_enter Try.func53, Try.ntmps53
          go_wp2
          go_ret
          exact ⟨by simp [e0], by repeat (first | exact Below.refl _ _ | refine below_alloc ?_ _)⟩
        · have e3 : (a == xa) = false := by simpa using h3
          go_enter Try.func53, Try.ntmps53
          go_wp2
          go_ret
          exact ⟨by simp [e0, e3], by repeat (first | exact Below.refl _ _ | refine below_alloc ?_ _)⟩
      · have e2 : (t == xu) = false := by simpa using h2
        go_enter Try.func53, Try.ntmps53
        go_wp2
        go_ret
        exact ⟨by simp [e0, e2], by repeat (first | exact Below.refl _ _ | refine below_alloc ?_ _)⟩
    · have e1 : (i == xi) = false := by simpa using h1
      go_enter Try.func53, Try.ntmps53
      go_wp2
      go_ret
      exact ⟨by simp [e0, e1], by repeat (first | exact Below.refl _ _ | refine below_alloc ?_ _)⟩
  · have e0 : (k == y) = false := by simpa using h0
    go_enter Try.func53, Try.ntmps53
    go_wp2
    go_ret
    exact ⟨by simp [e0], by repeat (first | exact Below.refl _ _ | refine below_alloc ?_ _)⟩
set_option maxHeartbeats 1000000 in
set_option maxRecDepth 100000 in
/-- Answer's test. -/
theorem fit_calls (x : Lt) (hx : x.kind = 1 ∨ x.kind = 2) (k i t : Int) (s : ByteArray) (a : Int) (o : Bool) (hk : (Lit.int .i64 k).wf = true) (b : Nat) (w : World) (h : w.heap[b]? = some (.cells #[.int .i64 k, .int .i64 i, .int .i64 t, .string s, .int .i64 a, .bool o] 28 (0, 0))) :
    Calls Try.prog 45 #[.agg #[.int .i64 x.to, .int .i64 x.kind, .int .i64 x.inst, .int .i64 x.turn, .string x.name, .int .i64 x.att, .bool x.ok], .pointer (some ⟨b, 0, none⟩)] w fun e w' => e = .returned (.bool (fits k i t a x)) ∧ Below w.heap.size w w' := by
  have hf := Aside0.mk (fun w1 => Fits_calls x hx k i t s a o hk w1)
  obtain ⟨xt, xk, xi, xu, xs, xa, xo⟩ := x
  obtain ⟨c0, c1, c2, c3, c4, c5⟩ := msg_cells h
  have hb : b < w.heap.size := blk_lt h
  simp only [] at hf
  clear h hx hk
  go_enter Try.func45, Try.ntmps45
  go_wp2_with fail
  refine (hf.out _).mono ?_
  rintro e w1 ⟨rfl, hb1⟩
  go_wp2
  go_ret
  exact ⟨rfl, below_step (below_alloc (Below.refl _ _) _) hb1⟩
def idxV : Option Nat → Int
  | none => -1
  | some j => (j : Int)
set_option maxHeartbeats 2000000 in
set_option maxRecDepth 100000 in
theorem Index_45 (f : Lt → Bool) (cap : Value) (L : List Lt) (hl : L.length ≤ 1000) (A : Option Addr) (cp : Nat) (w : World) (hC : Kd.C kLt w A L.length L)
    (hcl : ∀ W : World, Below w.heap.size w W → ∀ x ∈ L, Calls Try.prog 45 #[.agg #[.int .i64 x.to, .int .i64 x.kind, .int .i64 x.inst, .int .i64 x.turn, .string x.name, .int .i64 x.att, .bool x.ok], cap] W fun e w' => e = .returned (.bool (f x)) ∧ Below W.heap.size W w') :
    Calls Try.prog 44 #[.slice A L.length cp, .func (.func 45) #[] #[cap]] w fun e w' => e = .returned (.int .i64 (idxV (find f L))) ∧ Below w.heap.size w w' := by
  have hC' := Aside0.mk hC
  have hcl' := Aside0.mk hcl
  clear hC hcl
  go_enter Try.func44, Try.ntmps44
  go_wp2_with fail
  go_loopg [8] (L.length + 1) (fun kq v8 w' => ∃ (i : Nat), v8 = .int .i64 (i : Int) ∧ Aside0 (kq + i = L.length + 1) ∧ Aside0 (i ≤ L.length) ∧ Aside0 (idx f (L.drop i) i = find f L) ∧ Aside0 (Below w.heap.size w w'))
  case atStart => exact ⟨0, rfl, ⟨by omega⟩, ⟨by omega⟩, ⟨rfl⟩, ⟨Below.refl _ _⟩⟩
  case round =>
    obtain ⟨i, rfl, hk, hi, hx, hB⟩ := hrel
    by_cases hlt : i < L.length
    · have hd : decide ((i : Int) < (L.length : Int)) = true := decide_eq_true (by omega)
      have hd' : decide (i < L.length) = true := decide_eq_true hlt
      cases gk with
      | zero => exact absurd hk.out (by omega)
      | succ k1 =>
        have hlt' := Aside0.mk hlt
        obtain ⟨x, hq⟩ : ∃ x, L[i]? = some x := ⟨_, List.getElem?_eq_getElem hlt⟩
        obtain ⟨ad, rfl, y0, y1, y2, y3, y4, y5, y6⟩ := at_Lt (Kd.C_below hC'.out hB.out) hq
        have hst := idx_drop f L i hq
        rw [hx.out] at hst
        have hc := Aside0.mk (hcl'.out wr hB.out x (List.mem_of_getElem? hq))
        obtain ⟨bb, hbb⟩ : ∃ bb, f x = bb := ⟨_, rfl⟩
        rw [hbb] at hst hc
        have hst' := Aside0.mk hst
        obtain ⟨xt, xk, xi, xu, xs, xa, xo⟩ := x
        simp only [] at y0 y1 y2 y3 y4 y5 y6 hc
        clear hst hq hbb
        cases bb with
        | true =>
          have e1 := hst'.out
          rw [if_pos rfl] at e1
          have e1' := Aside0.mk e1
          clear e1
          go_wp2_with (first
            | (go_at_call 45; (with_reducible refine hc.out.mono ?_); rintro e w1 ⟨rfl, hb1⟩; have hB1 : Aside0 (Below w.heap.size w w1) := ⟨below_step hB.out hb1⟩; clear hb1)
            | fail)
          go_ret
          have e1 := e1'.out
          exact ⟨by rw [e1]; rfl, hB1.out⟩
        | false =>
          have e1 := hst'.out
          rw [if_neg (by decide)] at e1
          have e1' := Aside0.mk e1
          clear e1
          go_wp2_with (first
            | (go_at_call 45; (with_reducible refine hc.out.mono ?_); rintro e w1 ⟨rfl, hb1⟩; have hB1 : Aside0 (Below w.heap.size w w1) := ⟨below_step hB.out hb1⟩; clear hb1)
            | fail)
          go_roundg k1
          case measure => have := hk.out; omega
          case rel => exact ⟨i + 1, by go_num, ⟨by have := hk.out; omega⟩, ⟨by have := hlt'.out; omega⟩, ⟨e1'.out.symm⟩, hB1⟩
    · have hd : decide ((i : Int) < (L.length : Int)) = false := decide_eq_false (by omega)
      have hd' : decide (i < L.length) = false := decide_eq_false hlt
      obtain rfl : i = L.length := by have := hi.out; omega
      have e1 := hx.out
      rw [List.drop_length] at e1
      go_wp2
      go_ret
      exact ⟨by rw [← e1]; rfl, hB.out⟩
set_option maxHeartbeats 2000000 in
set_option maxRecDepth 100000 in
theorem Index_49 (f : Lt → Bool) (cap : Value) (L : List Lt) (hl : L.length ≤ 1000) (A : Option Addr) (cp : Nat) (w : World) (hC : Kd.C kLt w A L.length L)
    (hcl : ∀ W : World, Below w.heap.size w W → ∀ x ∈ L, Calls Try.prog 49 #[.agg #[.int .i64 x.to, .int .i64 x.kind, .int .i64 x.inst, .int .i64 x.turn, .string x.name, .int .i64 x.att, .bool x.ok], cap] W fun e w' => e = .returned (.bool (f x)) ∧ Below W.heap.size W w') :
    Calls Try.prog 44 #[.slice A L.length cp, .func (.func 49) #[] #[cap]] w fun e w' => e = .returned (.int .i64 (idxV (find f L))) ∧ Below w.heap.size w w' := by
  have hC' := Aside0.mk hC
  have hcl' := Aside0.mk hcl
  clear hC hcl
  go_enter Try.func44, Try.ntmps44
  go_wp2_with fail
  go_loopg [8] (L.length + 1) (fun kq v8 w' => ∃ (i : Nat), v8 = .int .i64 (i : Int) ∧ Aside0 (kq + i = L.length + 1) ∧ Aside0 (i ≤ L.length) ∧ Aside0 (idx f (L.drop i) i = find f L) ∧ Aside0 (Below w.heap.size w w'))
  case atStart => exact ⟨0, rfl, ⟨by omega⟩, ⟨by omega⟩, ⟨rfl⟩, ⟨Below.refl _ _⟩⟩
  case round =>
    obtain ⟨i, rfl, hk, hi, hx, hB⟩ := hrel
    by_cases hlt : i < L.length
    · have hd : decide ((i : Int) < (L.length : Int)) = true := decide_eq_true (by omega)
      have hd' : decide (i < L.length) = true := decide_eq_true hlt
      cases gk with
      | zero => exact absurd hk.out (by omega)
      | succ k1 =>
        have hlt' := Aside0.mk hlt
        obtain ⟨x, hq⟩ : ∃ x, L[i]? = some x := ⟨_, List.getElem?_eq_getElem hlt⟩
        obtain ⟨ad, rfl, y0, y1, y2, y3, y4, y5, y6⟩ := at_Lt (Kd.C_below hC'.out hB.out) hq
        have hst := idx_drop f L i hq
        rw [hx.out] at hst
        have hc := Aside0.mk (hcl'.out wr hB.out x (List.mem_of_getElem? hq))
        obtain ⟨bb, hbb⟩ : ∃ bb, f x = bb := ⟨_, rfl⟩
        rw [hbb] at hst hc
        have hst' := Aside0.mk hst
        obtain ⟨xt, xk, xi, xu, xs, xa, xo⟩ := x
        simp only [] at y0 y1 y2 y3 y4 y5 y6 hc
        clear hst hq hbb
        cases bb with
        | true =>
          have e1 := hst'.out
          rw [if_pos rfl] at e1
          have e1' := Aside0.mk e1
          clear e1
          go_wp2_with (first
            | (go_at_call 49; (with_reducible refine hc.out.mono ?_); rintro e w1 ⟨rfl, hb1⟩; have hB1 : Aside0 (Below w.heap.size w w1) := ⟨below_step hB.out hb1⟩; clear hb1)
            | fail)
          go_ret
          have e1 := e1'.out
          exact ⟨by rw [e1]; rfl, hB1.out⟩
        | false =>
          have e1 := hst'.out
          rw [if_neg (by decide)] at e1
          have e1' := Aside0.mk e1
          clear e1
          go_wp2_with (first
            | (go_at_call 49; (with_reducible refine hc.out.mono ?_); rintro e w1 ⟨rfl, hb1⟩; have hB1 : Aside0 (Below w.heap.size w w1) := ⟨below_step hB.out hb1⟩; clear hb1)
            | fail)
          go_roundg k1
          case measure => have := hk.out; omega
          case rel => exact ⟨i + 1, by go_num, ⟨by have := hk.out; omega⟩, ⟨by have := hlt'.out; omega⟩, ⟨e1'.out.symm⟩, hB1⟩
    · have hd : decide ((i : Int) < (L.length : Int)) = false := decide_eq_false (by omega)
      have hd' : decide (i < L.length) = false := decide_eq_false hlt
      obtain rfl : i = L.length := by have := hi.out; omega
      have e1 := hx.out
      rw [List.drop_length] at e1
      go_wp2
      go_ret
      exact ⟨by rw [← e1]; rfl, hB.out⟩
set_option maxHeartbeats 2000000 in
set_option maxRecDepth 100000 in
theorem Index_51 (f : Lt → Bool) (cap : Value) (L : List Lt) (hl : L.length ≤ 1000) (A : Option Addr) (cp : Nat) (w : World) (hC : Kd.C kLt w A L.length L)
    (hcl : ∀ W : World, Below w.heap.size w W → ∀ x ∈ L, Calls Try.prog 51 #[.agg #[.int .i64 x.to, .int .i64 x.kind, .int .i64 x.inst, .int .i64 x.turn, .string x.name, .int .i64 x.att, .bool x.ok], cap] W fun e w' => e = .returned (.bool (f x)) ∧ Below W.heap.size W w') :
    Calls Try.prog 44 #[.slice A L.length cp, .func (.func 51) #[] #[cap]] w fun e w' => e = .returned (.int .i64 (idxV (find f L))) ∧ Below w.heap.size w w' := by
  have hC' := Aside0.mk hC
  have hcl' := Aside0.mk hcl
  clear hC hcl
  go_enter Try.func44, Try.ntmps44
  go_wp2_with fail
  go_loopg [8] (L.length + 1) (fun kq v8 w' => ∃ (i : Nat), v8 = .int .i64 (i : Int) ∧ Aside0 (kq + i = L.length + 1) ∧ Aside0 (i ≤ L.length) ∧ Aside0 (idx f (L.drop i) i = find f L) ∧ Aside0 (Below w.heap.size w w'))
  case atStart => exact ⟨0, rfl, ⟨by omega⟩, ⟨by omega⟩, ⟨rfl⟩, ⟨Below.refl _ _⟩⟩
  case round =>
    obtain ⟨i, rfl, hk, hi, hx, hB⟩ := hrel
    by_cases hlt : i < L.length
    · have hd : decide ((i : Int) < (L.length : Int)) = true := decide_eq_true (by omega)
      have hd' : decide (i < L.length) = true := decide_eq_true hlt
      cases gk with
      | zero => exact absurd hk.out (by omega)
      | succ k1 =>
        have hlt' := Aside0.mk hlt
        obtain ⟨x, hq⟩ : ∃ x, L[i]? = some x := ⟨_, List.getElem?_eq_getElem hlt⟩
        obtain ⟨ad, rfl, y0, y1, y2, y3, y4, y5, y6⟩ := at_Lt (Kd.C_below hC'.out hB.out) hq
        have hst := idx_drop f L i hq
        rw [hx.out] at hst
        have hc := Aside0.mk (hcl'.out wr hB.out x (List.mem_of_getElem? hq))
        obtain ⟨bb, hbb⟩ : ∃ bb, f x = bb := ⟨_, rfl⟩
        rw [hbb] at hst hc
        have hst' := Aside0.mk hst
        obtain ⟨xt, xk, xi, xu, xs, xa, xo⟩ := x
        simp only [] at y0 y1 y2 y3 y4 y5 y6 hc
        clear hst hq hbb
        cases bb with
        | true =>
          have e1 := hst'.out
          rw [if_pos rfl] at e1
          have e1' := Aside0.mk e1
          clear e1
          go_wp2_with (first
            | (go_at_call 51; (with_reducible refine hc.out.mono ?_); rintro e w1 ⟨rfl, hb1⟩; have hB1 : Aside0 (Below w.heap.size w w1) := ⟨below_step hB.out hb1⟩; clear hb1)
            | fail)
          go_ret
          have e1 := e1'.out
          exact ⟨by rw [e1]; rfl, hB1.out⟩
        | false =>
          have e1 := hst'.out
          rw [if_neg (by decide)] at e1
          have e1' := Aside0.mk e1
          clear e1
          go_wp2_with (first
            | (go_at_call 51; (with_reducible refine hc.out.mono ?_); rintro e w1 ⟨rfl, hb1⟩; have hB1 : Aside0 (Below w.heap.size w w1) := ⟨below_step hB.out hb1⟩; clear hb1)
            | fail)
          go_roundg k1
          case measure => have := hk.out; omega
          case rel => exact ⟨i + 1, by go_num, ⟨by have := hk.out; omega⟩, ⟨by have := hlt'.out; omega⟩, ⟨e1'.out.symm⟩, hB1⟩
    · have hd : decide ((i : Int) < (L.length : Int)) = false := decide_eq_false (by omega)
      have hd' : decide (i < L.length) = false := decide_eq_false hlt
      obtain rfl : i = L.length := by have := hi.out; omega
      have e1 := hx.out
      rw [List.drop_length] at e1
      go_wp2
      go_ret
      exact ⟨by rw [← e1]; rfl, hB.out⟩
end Go.Proofs.Ytdglbiafpofeeaa.Obx
