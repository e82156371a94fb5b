/- The disk's functions, walked: New, burn, find, Used, what looks. -/
import Derived.Test.YtnplnelhodnonaaDkRep
import Derived.Test.YtnplnelhodnonaaTape
namespace Go.Proofs.Ytnplnelhodnonaa.Dsk
open Go.RowKit Go.Proofs.YtnplnelhodnonaaW.PrintWords Go.Proofs.YtnplnelhodnonaaW.PrintLast Go.Proofs.YtnplnelhodnonaaW.PrintMore
open Amap Frm
set_option linter.unusedVariables false
set_option linter.unusedSimpArgs false
section
variable {ok : Nat → Prop} {w : World} {p b : Nat} {S : DSt} {M : Gss}
set_option maxRecDepth 100000 in
theorem DAt.lookN (h : DAt ok w p S M b) {n : Int} (hd : domI n) (hx : mlook M n = none) : (Instr.lookup 77 (.map (some b)) (.int .i64 n) false).run Try.prog w = .ok (.pointer none) w := by
  have h1 := h.map.lookup encI Try.underlying77 (P := Try.prog) (z := .pointer none) rfl hd false
  rw [hx] at h1
  exact h1
set_option maxRecDepth 100000 in
theorem DAt.lookS (h : DAt ok w p S M b) {n : Int} (hd : domI n) {x : Gs} (hx : mlook M n = some x) : (Instr.lookup 77 (.map (some b)) (.int .i64 n) false).run Try.prog w = .ok (.pointer (some ⟨x.1, 0, none⟩)) w := by
  have h1 := h.map.lookup encI Try.underlying77 (P := Try.prog) (z := .pointer none) rfl hd false
  rw [hx] at h1
  exact h1
end
theorem new_is (r : Int) (ok : Nat → Prop) (w : World) (hok : ∀ k, w.heap.size ≤ k → ok k) : IsD ok ((w.alloc (.map #[] 0)).alloc (.cells #[.map (some w.heap.size), .int .i64 r, .int .i64 0, .bool false, .bool false] 79)) (w.heap.size + 1) ⟨[], r, 0, false, false⟩ := by
  refine ⟨[], w.heap.size, hok _ (by omega), ?_, hok _ (Nat.le_refl _), ?_, rfl, by simp, by simp⟩
  · have h := blk_new (w.alloc (.map #[] 0)) (.cells #[.map (some w.heap.size), .int .i64 r, .int .i64 0, .bool false, .bool false] 79)
    have h2 : (w.alloc (.map #[] 0)).heap.size = w.heap.size + 1 := by simp
    rw [h2] at h
    exact h
  · exact (MapIs.made w).move (Below.heap_alloc _ _ _ (by simp))
set_option maxHeartbeats 2000000 in
set_option maxRecDepth 100000 in
theorem New_calls' (n : Int) (w : World) (ok : Nat → Prop) (hok : ∀ k, w.heap.size ≤ k → ok k) : Calls Try.prog 12 #[.int .i64 n] w fun e w' => e = .returned (.pointer (some ⟨w.heap.size + 1, 0, none⟩)) ∧ IsD ok w' (w.heap.size + 1) ⟨[], max n 0, 0, false, false⟩ ∧ Below w.heap.size w w' := by
  have hmm := @run_makeMap Try.prog
  obtain ⟨q, hq⟩ : ∃ q, max n 0 = q := ⟨_, rfl⟩
  have hq' := Aside0.mk hq
  by_cases h0 : n < 0
  · have e1 : q = 0 := by rw [← hq]; omega
    subst e1
    rw [hq]
    clear hq
    go_enter Try.func12, Try.ntmps12
    go_wp2
    go_ret
    exact ⟨rfl, new_is _ ok w hok, below_alloc (below_alloc (Below.refl _ _) _) _⟩
  · have e1 : q = n := by rw [← hq]; omega
    subst e1
    rw [hq]
    clear hq
    go_enter Try.func12, Try.ntmps12
    go_wp2
    go_ret
    exact ⟨rfl, new_is _ ok w hok, below_alloc (below_alloc (Below.refl _ _) _) _⟩
set_option maxHeartbeats 2000000 in
set_option maxRecDepth 100000 in
theorem burn_calls (S : DSt) (M : Gss) (b : Nat) (ok : Nat → Prop) (p : Nat) (w : World) (h : DAt ok w p S M b) : Calls Try.prog 51 #[.pointer (some ⟨p, 0, none⟩)] w fun e w' => e = .returned (.bool (burn S).2) ∧ DAt ok w' p (burn S).1 M b ∧ Fz ok w w' := by
  obtain ⟨L, r, l, f, d⟩ := S
  obtain ⟨c0, c1, c2, c3, c4⟩ := h.cells
  simp only [] at c0 c1 c2 c3 c4
  have f2 := blk_frozen h.blk 2
  have f4 := blk_frozen h.blk 4
  have h' := Aside0.mk h
  clear h
  cases f with
  | false =>
    have e : burn ⟨L, r, l, false, d⟩ = (⟨L, r, drop1 l, false, d⟩, true) := by unfold burn; rw [if_neg (by simp)]
    rw [e]
    clear e
    go_enter Try.func51, Try.ntmps51
    go_wp2
    go_ret
    exact ⟨rfl, h'.out.own (S' := ⟨L, r, drop1 l, false, d⟩) rfl 2 _ rfl⟩
  | true =>
    by_cases hl : l = 0
    · subst hl
      have e : burn ⟨L, r, 0, true, d⟩ = (⟨L, r, 0, true, true⟩, false) := by unfold burn; rw [if_pos (by simp)]
      rw [e]
      clear e
      go_enter Try.func51, Try.ntmps51
      go_wp2
      go_ret
      exact ⟨rfl, h'.out.own (S' := ⟨L, r, 0, true, true⟩) rfl 4 _ rfl⟩
    · have e : burn ⟨L, r, l, true, d⟩ = (⟨L, r, drop1 l, true, d⟩, true) := by unfold burn; rw [if_neg (by simp [hl])]
      rw [e]
      clear e
      have hl' : (l == 0) = false := by simpa using hl
      clear hl
      go_enter Try.func51, Try.ntmps51
      go_wp2
      go_ret
      exact ⟨rfl, h'.out.own (S' := ⟨L, r, drop1 l, true, d⟩) rfl 2 _ rfl⟩
section
variable (S : DSt) (M : Gss) (b : Nat) (n : Int) (ok : Nat → Prop) (p : Nat) (w : World) (h : DAt ok w p S M b)
include h
set_option maxHeartbeats 2000000 in
set_option maxRecDepth 100000 in
theorem find_down (hd : S.down = true) : Calls Try.prog 49 #[.pointer (some ⟨p, 0, none⟩), .int .i64 n] w fun e w' => e = .returned (.tuple #[.pointer none, .int .i64 8]) ∧ w = w' := by
  obtain ⟨L, r, l, f, d⟩ := S
  obtain ⟨c0, c1, c2, c3, c4⟩ := h.cells
  simp only [] at c0 c1 c2 c3 c4 hd
  subst hd
  clear h
  go_enter Try.func49, Try.ntmps49
  go_wp2
  refine bodyPost_ret (v := .tuple #[.pointer none, .int .i64 8]) (by simp [results, Try.results49, go_sem]) rfl ?_
  exact ⟨rfl, rfl⟩
set_option maxHeartbeats 2000000 in
set_option maxRecDepth 100000 in
theorem find_none (hd : S.down = false) (hn : domI n) (hx : mlook M n = none) : Calls Try.prog 49 #[.pointer (some ⟨p, 0, none⟩), .int .i64 n] w fun e w' => e = .returned (.tuple #[.pointer none, .int .i64 5]) ∧ w = w' := by
  have hlk := h.lookN hn hx
  obtain ⟨L, r, l, f, d⟩ := S
  obtain ⟨c0, c1, c2, c3, c4⟩ := h.cells
  simp only [] at c0 c1 c2 c3 c4 hd
  subst hd
  clear h hx hn
  go_enter Try.func49, Try.ntmps49
  go_wp2
  refine bodyPost_ret (v := .tuple #[.pointer none, .int .i64 5]) (by simp [results, Try.results49, go_sem]) rfl ?_
  exact ⟨rfl, rfl⟩
set_option maxHeartbeats 2000000 in
set_option maxRecDepth 100000 in
theorem find_some (hd : S.down = false) (hn : domI n) (x : Gs) (hx : mlook M n = some x) : Calls Try.prog 49 #[.pointer (some ⟨p, 0, none⟩), .int .i64 n] w fun e w' => e = .returned (.tuple #[.pointer (some ⟨x.1, 0, none⟩), .int .i64 0]) ∧ w = w' := by
  have hlk := h.lookS hn hx
  obtain ⟨g, v, q⟩ := x
  obtain ⟨L, r, l, f, d⟩ := S
  obtain ⟨c0, c1, c2, c3, c4⟩ := h.cells
  simp only [] at c0 c1 c2 c3 c4 hd hlk
  subst hd
  clear h hx hn
  go_enter Try.func49, Try.ntmps49
  go_wp2
  refine bodyPost_ret (v := .tuple #[.pointer (some ⟨g, 0, none⟩), .int .i64 0]) (by simp [results, Try.results49, go_sem]) rfl ?_
  exact ⟨rfl, rfl⟩
set_option maxHeartbeats 2000000 in
set_option maxRecDepth 100000 in
theorem Synced_calls (hn : domI n) : Calls Try.prog 18 #[.pointer (some ⟨p, 0, none⟩), .int .i64 n] w fun e w' => e = .returned (.int .i64 ((sg S.L n).2 : Nat)) ∧ w = w' := by
  obtain ⟨c0, c1, c2, c3, c4⟩ := h.cells
  cases hx : mlook M n with
  | none =>
    rw [h.sg0 hx]
    have hlk := h.lookN hn hx
    clear h hx hn
    go_enter Try.func18, Try.ntmps18
    go_wp2
    go_ret
    exact ⟨rfl, rfl⟩
  | some x =>
    rw [h.sg hx]
    have hlk := h.lookS hn hx
    obtain ⟨s0, s1⟩ := (h.seg hx).cells
    obtain ⟨g, v, q⟩ := x
    simp only [] at s0 s1 hlk
    clear h hx hn
    go_enter Try.func18, Try.ntmps18
    go_wp2
    go_ret
    exact ⟨rfl, rfl⟩
set_option maxHeartbeats 2000000 in
set_option maxRecDepth 100000 in
theorem Down_calls : Calls Try.prog 20 #[.pointer (some ⟨p, 0, none⟩)] w fun e w' => e = .returned (.bool S.down) ∧ w = w' := by
  obtain ⟨c0, c1, c2, c3, c4⟩ := h.cells
  clear h
  go_enter Try.func20, Try.ntmps20
  go_wp2
  go_ret
  exact ⟨rfl, rfl⟩
set_option maxHeartbeats 2000000 in
set_option maxRecDepth 100000 in
theorem SetFuse_calls : Calls Try.prog 21 #[.pointer (some ⟨p, 0, none⟩), .int .i64 n] w fun e w' => e = .returned (.tuple #[]) ∧ DAt ok w' p (setFuse S n) M b ∧ Fz ok w w' := by
  obtain ⟨L, r, l, f, d⟩ := S
  obtain ⟨c0, c1, c2, c3, c4⟩ := h.cells
  simp only [] at c0 c1 c2 c3 c4
  have f3 := blk_frozen h.blk 3
  have f2 := blk_frozen h.blk 2
  have h' := Aside0.mk h
  clear h
  go_enter Try.func21, Try.ntmps21
  go_wp2
  first
    | go_ret
    | go_end0
  obtain ⟨h2, k2⟩ := h'.out.own (S' := ⟨L, r, l, decide (0 ≤ n), d⟩) rfl 3 (.bool (decide (0 ≤ n))) rfl
  obtain ⟨h3, k3⟩ := h2.own (S' := setFuse ⟨L, r, l, f, d⟩ n) rfl 2 (.int .i64 n) rfl
  exact ⟨rfl, h3, k2.trans k3⟩
set_option maxHeartbeats 2000000 in
set_option maxRecDepth 100000 in
theorem SetRoom_calls : Calls Try.prog 22 #[.pointer (some ⟨p, 0, none⟩), .int .i64 n] w fun e w' => e = .returned (.tuple #[]) ∧ DAt ok w' p (setRoom S n) M b ∧ Fz ok w w' := by
  obtain ⟨L, r, l, f, d⟩ := S
  obtain ⟨c0, c1, c2, c3, c4⟩ := h.cells
  simp only [] at c0 c1 c2 c3 c4
  have f1 := blk_frozen h.blk 1
  have h' := Aside0.mk h
  clear h
  by_cases h0 : n < 0
  · have e1 : setRoom ⟨L, r, l, f, d⟩ n = ⟨L, 0, l, f, d⟩ := by unfold setRoom; rw [show max n 0 = 0 by omega]
    rw [e1]
    clear e1
    go_enter Try.func22, Try.ntmps22
    go_wp2
    first
      | go_ret
      | go_end0
    exact ⟨rfl, h'.out.own (S' := ⟨L, 0, l, f, d⟩) rfl 1 _ rfl⟩
  · have e1 : setRoom ⟨L, r, l, f, d⟩ n = ⟨L, n, l, f, d⟩ := by unfold setRoom; rw [show max n 0 = n by omega]
    rw [e1]
    clear e1
    go_enter Try.func22, Try.ntmps22
    go_wp2
    first
      | go_ret
      | go_end0
    exact ⟨rfl, h'.out.own (S' := ⟨L, n, l, f, d⟩) rfl 1 _ rfl⟩
end
end Go.Proofs.Ytnplnelhodnonaa.Dsk
