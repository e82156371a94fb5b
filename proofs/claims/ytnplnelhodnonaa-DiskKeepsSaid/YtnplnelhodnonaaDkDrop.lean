/- The disk's functions, walked: New, burn, find, Used, what looks. -/
import Derived.Test.YtnplnelhodnonaaDkRep
import Derived.Test.YtnplnelhodnonaaTape
namespace Go.Proofs.Ytnplnelhodnonaa.Dsk
open Go.RowKit Go.Proofs.YtnplnelhodnonaaW.PrintWords Go.Proofs.YtnplnelhodnonaaW.PrintLast Go.Proofs.YtnplnelhodnonaaW.PrintMore
open Amap Frm
set_option linter.unusedVariables false
set_option linter.unusedSimpArgs false
section
variable {ok : Nat → Prop} {w : World} {p b : Nat} {S : DSt} {M : Gss}
set_option maxRecDepth 100000 in
theorem DAt.lookN (h : DAt ok w p S M b) {n : Int} (hd : domI n) (hx : mlook M n = none) : (Instr.lookup 77 (.map (some b)) (.int .i64 n) false).run Try.prog w = .ok (.pointer none) w := by
  have h1 := h.map.lookup encI Try.underlying77 (P := Try.prog) (z := .pointer none) rfl hd false
  rw [hx] at h1
  exact h1
set_option maxRecDepth 100000 in
theorem DAt.lookS (h : DAt ok w p S M b) {n : Int} (hd : domI n) {x : Gs} (hx : mlook M n = some x) : (Instr.lookup 77 (.map (some b)) (.int .i64 n) false).run Try.prog w = .ok (.pointer (some ⟨x.1, 0, none⟩)) w := by
  have h1 := h.map.lookup encI Try.underlying77 (P := Try.prog) (z := .pointer none) rfl hd false
  rw [hx] at h1
  exact h1
end
theorem new_is (r : Int) (ok : Nat → Prop) (w : World) (hok : ∀ k, w.heap.size ≤ k → ok k) : IsD ok ((w.alloc (.map #[] 0)).alloc (.cells #[.map (some w.heap.size), .int .i64 r, .int .i64 0, .bool false, .bool false] 79)) (w.heap.size + 1) ⟨[], r, 0, false, false⟩ := by
  refine ⟨[], w.heap.size, hok _ (by omega), ?_, hok _ (Nat.le_refl _), ?_, rfl, by simp, by simp⟩
  · have h := blk_new (w.alloc (.map #[] 0)) (.cells #[.map (some w.heap.size), .int .i64 r, .int .i64 0, .bool false, .bool false] 79)
    have h2 : (w.alloc (.map #[] 0)).heap.size = w.heap.size + 1 := by simp
    rw [h2] at h
    exact h
  · exact (MapIs.made w).move (Below.heap_alloc _ _ _ (by simp))
set_option maxHeartbeats 2000000 in
set_option maxRecDepth 100000 in
theorem New_calls' (n : Int) (w : World) (ok : Nat → Prop) (hok : ∀ k, w.heap.size ≤ k → ok k) : Calls Try.prog 12 #[.int .i64 n] w fun e w' => e = .returned (.pointer (some ⟨w.heap.size + 1, 0, none⟩)) ∧ IsD ok w' (w.heap.size + 1) ⟨[], max n 0, 0, false, false⟩ ∧ Below w.heap.size w w' := by
  have hmm := @run_makeMap Try.prog
  obtain ⟨q, hq⟩ : ∃ q, max n 0 = q := ⟨_, rfl⟩
  have hq' := Aside0.mk hq
  by_cases h0 : n < 0
  · have e1 : q = 0 := by rw [← hq]; omega
    subst e1
    rw [hq]
    clear hq
    go_enter Try.func12, Try.ntmps12
    go_wp2
    go_ret
    exact ⟨rfl, new_is _ ok w hok, below_alloc (below_alloc (Below.refl _ _) _) _⟩
  · have e1 : q = n := by rw [← hq]; omega
    subst e1
    rw [hq]
    clear hq
    go_enter Try.func12, Try.ntmps12
    go_wp2
    go_ret
    exact ⟨rfl, new_is _ ok w hok, below_alloc (below_alloc (Below.refl _ _) _) _⟩
set_option maxHeartbeats 2000000 in
set_option maxRecDepth 100000 in
theorem burn_calls (S : DSt) (M : Gss) (b : Nat) (ok : Nat → Prop) (p : Nat) (w : World) (h : DAt ok w p S M b) : Calls Try.prog 51 #[.pointer (some ⟨p, 0, none⟩)] w fun e w' => e = .returned (.bool (burn S).2) ∧ DAt ok w' p (burn S).1 M b ∧ Fz ok w w' := by
  obtain ⟨L, r, l, f, d⟩ := S
  obtain ⟨c0, c1, c2, c3, c4⟩ := h.cells
  simp only [] at c0 c1 c2 c3 c4
  have f2 := blk_frozen h.blk 2
  have f4 := blk_frozen h.blk 4
  have h' := Aside0.mk h
  clear h
  cases f with
  | false =>
    have e : burn ⟨L, r, l, false, d⟩ = (⟨L, r, drop1 l, false, d⟩, true) := by unfold burn; rw [if_neg (by simp)]
    rw [e]
    clear e
    go_enter Try.func51, Try.ntmps51
    go_wp2
    go_ret
    exact ⟨rfl, h'.out.own (S' := ⟨L, r, drop1 l, false, d⟩) rfl 2 _ rfl⟩
  | true =>
    by_cases hl : l = 0
    · subst hl
      have e : burn ⟨L, r, 0, true, d⟩ = (⟨L, r, 0, true, true⟩, false) := by unfold burn; rw [if_pos (by simp)]
      rw [e]
      clear e
      go_enter Try.func51, Try.ntmps51
      go_wp2
      go_ret
      exact ⟨rfl, h'.out.own (S' := ⟨L, r, 0, true, true⟩) rfl 4 _ rfl⟩
    · have e : burn ⟨L, r, l, true, d⟩ = (⟨L, r, drop1 l, true, d⟩, true) := by unfold burn; rw [if_neg (by simp [hl])]
      rw [e]
      clear e
      have hl' : (l == 0) = false := by simpa using hl
      clear hl
      go_enter Try.func51, Try.ntmps51
      go_wp2
      go_ret
      exact ⟨rfl, h'.out.own (S' := ⟨L, r, drop1 l, true, d⟩) rfl 2 _ rfl⟩
section
variable (S : DSt) (M : Gss) (b : Nat) (n : Int) (ok : Nat → Prop) (p : Nat) (w : World) (h : DAt ok w p S M b)
include h
set_option maxHeartbeats 2000000 in
set_option maxRecDepth 100000 in
theorem find_down (hd : S.down = true) : Calls Try.prog 49 #[.pointer (some ⟨p, 0, none⟩), .int .i64 n] w fun e w' => e = .returned (.tuple #[.pointer none, .int .i64 8]) ∧ w = w' := by
  obtain ⟨L, r, l, f, d⟩ := S
  obtain ⟨c0, c1, c2, c3, c4⟩ := h.cells
  simp only [] at c0 c1 c2 c3 c4 hd
  subst hd
  clear h
  go_enter Try.func49, Try.ntmps49
  go_wp2
  refine bodyPost_ret (v := .tuple #[.pointer none, .int .i64 8]) (by simp [results, Try.results49, go_sem]) rfl ?_
  exact ⟨rfl, rfl⟩
set_option maxHeartbeats 2000000 in
set_option maxRecDepth 100000 in
theorem find_none (hd : S.down = false) (hn : domI n) (hx : mlook M n = none) : Calls Try.prog 49 #[.pointer (some ⟨p, 0, none⟩), .int .i64 n] w fun e w' => e = .returned (.tuple #[.pointer none, .int .i64 5]) ∧ w = w' := by
  have hlk := h.lookN hn hx
  obtain ⟨L, r, l, f, d⟩ := S
  obtain ⟨c0, c1, c2, c3, c4⟩ := h.cells
  simp only [] at c0 c1 c2 c3 c4 hd
  subst hd
  clear h hx hn
  go_enter Try.func49, Try.ntmps49
  go_wp2
  refine bodyPost_ret (v := .tuple #[.pointer none, .int .i64 5]) (by simp [results, Try.results49, go_sem]) rfl ?_
  exact ⟨rfl, rfl⟩
set_option maxHeartbeats 2000000 in
set_option maxRecDepth 100000 in
theorem find_some (hd : S.down = false) (hn : domI n) (x : Gs) (hx : mlook M n = some x) : Calls Try.prog 49 #[.pointer (some ⟨p, 0, none⟩), .int .i64 n] w fun e w' => e = .returned (.tuple #[.pointer (some ⟨x.1, 0, none⟩), .int .i64 0]) ∧ w = w' := by
  have hlk := h.lookS hn hx
  obtain ⟨g, v, q⟩ := x
  obtain ⟨L, r, l, f, d⟩ := S
  obtain ⟨c0, c1, c2, c3, c4⟩ := h.cells
  simp only [] at c0 c1 c2 c3 c4 hd hlk
  subst hd
  clear h hx hn
  go_enter Try.func49, Try.ntmps49
  go_wp2
  refine bodyPost_ret (v := .tuple #[.pointer (some ⟨g, 0, none⟩), .int .i64 0]) (by simp [results, Try.results49, go_sem]) rfl ?_
  exact ⟨rfl, rfl⟩
set_option maxHeartbeats 2000000 in
set_option maxRecDepth 100000 in
theorem Synced_calls (hn : domI n) : Calls Try.prog 18 #[.pointer (some ⟨p, 0, none⟩), .int .i64 n] w fun e w' => e = .returned (.int .i64 ((sg S.L n).2 : Nat)) ∧ w = w' := by
  obtain ⟨c0, c1, c2, c3, c4⟩ := h.cells
  cases hx : mlook M n with
  | none =>
    rw [h.sg0 hx]
    have hlk := h.lookN hn hx
    clear h hx hn
    go_enter Try.func18, Try.ntmps18
    go_wp2
    go_ret
    exact ⟨rfl, rfl⟩
  | some x =>
    rw [h.sg hx]
    have hlk := h.lookS hn hx
    obtain ⟨s0, s1⟩ := (h.seg hx).cells
    obtain ⟨g, v, q⟩ := x
    simp only [] at s0 s1 hlk
    clear h hx hn
    go_enter Try.func18, Try.ntmps18
    go_wp2
    go_ret
    exact ⟨rfl, rfl⟩
set_option maxHeartbeats 2000000 in
set_option maxRecDepth 100000 in
theorem Down_calls : Calls Try.prog 20 #[.pointer (some ⟨p, 0, none⟩)] w fun e w' => e = .returned (.bool S.down) ∧ w = w' := by
  obtain ⟨c0, c1, c2, c3, c4⟩ := h.cells
  clear h
  go_enter Try.func20, Try.ntmps20
  go_wp2
  go_ret
  exact ⟨rfl, rfl⟩
set_option maxHeartbeats 2000000 in
set_option maxRecDepth 100000 in
theorem SetFuse_calls : Calls Try.prog 21 #[.pointer (some ⟨p, 0, none⟩), .int .i64 n] w fun e w' => e = .returned (.tuple #[]) ∧ DAt ok w' p (setFuse S n) M b ∧ Fz ok w w' := by
  obtain ⟨L, r, l, f, d⟩ := S
  obtain ⟨c0, c1, c2, c3, c4⟩ := h.cells
  simp only [] at c0 c1 c2 c3 c4
  have f3 := blk_frozen h.blk 3
  have f2 := blk_frozen h.blk 2
  have h' := Aside0.mk h
  clear h
  go_enter Try.func21, Try.ntmps21
  go_wp2
  first
    | go_ret
    | go_end0
  obtain ⟨h2, k2⟩ := h'.out.own (S' := ⟨L, r, l, decide (0 ≤ n), d⟩) rfl 3 (.bool (decide (0 ≤ n))) rfl
  obtain ⟨h3, k3⟩ := h2.own (S' := setFuse ⟨L, r, l, f, d⟩ n) rfl 2 (.int .i64 n) rfl
  exact ⟨rfl, h3, k2.trans k3⟩
set_option maxHeartbeats 2000000 in
set_option maxRecDepth 100000 in
theorem SetRoom_calls : Calls Try.prog 22 #[.pointer (some ⟨p, 0, none⟩), .int .i64 n] w fun e w' => e = .returned (.tuple #[]) ∧ DAt ok w' p (setRoom S n) M b ∧ Fz ok w w' := by
  obtain ⟨L, r, l, f, d⟩ := S
  obtain ⟨c0, c1, c2, c3, c4⟩ := h.cells
  simp only [] at c0 c1 c2 c3 c4
  have f1 := blk_frozen h.blk 1
  have h' := Aside0.mk h
  clear h
  by_cases h0 : n < 0
  · have e1 : setRoom ⟨L, r, l, f, d⟩ n = ⟨L, 0, l, f, d⟩ := by unfold setRoom; rw [show max n 0 = 0 by omega]
    rw [e1]
    clear e1
    go_enter Try.func22, Try.ntmps22
    go_wp2
    first
      | go_ret
      | go_end0
    exact ⟨rfl, h'.out.own (S' := ⟨L, 0, l, f, d⟩) rfl 1 _ rfl⟩
  · have e1 : setRoom ⟨L, r, l, f, d⟩ n = ⟨L, n, l, f, d⟩ := by unfold setRoom; rw [show max n 0 = n by omega]
    rw [e1]
    clear e1
    go_enter Try.func22, Try.ntmps22
    go_wp2
    first
      | go_ret
      | go_end0
    exact ⟨rfl, h'.out.own (S' := ⟨L, n, l, f, d⟩) rfl 1 _ rfl⟩
end
end Go.Proofs.Ytnplnelhodnonaa.Dsk
namespace Go.Proofs.Ytnplnelhodnonaa.Dsk
open Go.RowKit Go.Proofs.YtnplnelhodnonaaW.PrintWords Go.Proofs.YtnplnelhodnonaaW.PrintLast Go.Proofs.YtnplnelhodnonaaW.PrintMore
open Amap Frm
set_option linter.unusedVariables false
set_option linter.unusedSimpArgs false
set_option linter.unusedSectionVars false
theorem info5' : (Try.prog.info? 5).map (fun i => (i.zero, i.size, i.bytes)) = some (some (.int .u8 0), 1, 1) := by kernel_rfl
theorem R_mt5 {w : World} {g : Nat} (h : w.heap[g]? = some (.cells #[] 5 (0, 0))) (base : Nat) (hb : base ≤ g) : Kd.R (Kd.int .u8) 5 w base (fun _ => True) (.slice (some ⟨g, 0, none⟩) 0 0) [] := Frm.R_mtk (Kd.int .u8) h hb trivial
set_option maxHeartbeats 2000000 in
set_option maxRecDepth 100000 in
/-- slices.Clone of bytes. -/
theorem Clone_calls (L : List Int) (A : Option Addr) (cp : Nat) (w : World) (hC : Kd.C (Kd.int .u8) w A L.length L) (hL : L.length ≤ 100000000) : Calls Try.prog 50 #[.slice A L.length cp] w fun e w' => ∃ A2 c2, e = .returned (.slice A2 L.length c2) ∧ Kd.R (Kd.int .u8) 5 w' 0 (fun _ => True) (.slice A2 L.length c2) L ∧ Below w.heap.size w w' := by
  have hq : ∀ (W : World) (a : Option Addr) (n c n' c' : Nat), (binOp .eql 30 (.slice a n c) (.slice none n' c')).run Try.prog W = .ok (.bool a.isNone) W := fun W a n c n' c' => Lib.run_eql_slice_nil W _ _ a n c n' c' Try.underlying30
  have hC' := Aside0.mk hC
  have hL' := Aside0.mk hL
  clear hC hL
  cases A with
  | none =>
    have e : L = [] := by
      cases L with
      | nil => rfl
      | cons x L =>
        obtain ⟨A, hA, _⟩ := hC'.out.2.2 (by simp)
        cases hA
    subst e
    go_enter Try.func50, Try.ntmps50
    go_wp2
    go_ret
    exact ⟨none, 0, rfl, Kd.R_nil _ _ _ _ _, Below.refl _ _⟩
  | some ad =>
    go_enter Try.func50, Try.ntmps50
    go_wp2_with (first
      | ((with_reducible refine gate_builtin (b := .append) (xs := #[.tmp 5, .tmp 6]) rfl ?_); at_builtin
         refine Kd.R_append_row (Value.int .u8) 0 (w0 := w) 0 rfl (.tmp 5) (.tmp 6) 30 5 (.int .u8 0) 1 rfl Try.underlying30 info5' rfl (by decide) (.slice (some ⟨w.heap.size, 0, none⟩) 0 0) [] L (some ad) L.length cp (fun _ => True) rfl rfl (fun _ _ => trivial) (R_mt5 (blk_new _ _) 0 (Nat.zero_le _)) (Kd.C_below hC'.out (below_alloc (Below.refl _ _) _)) (below0 (below_alloc (Below.refl _ _) _)) (Nat.zero_le _) (by have := hL'.out; simp; omega) ?_
         intro v6 w6 hR6 hB6 hg6 hat6
         rw [List.nil_append] at hR6
         obtain ⟨A6, c6, e6, hc6, hC6⟩ := Kd.R_reads hR6
         subst e6
         have hR6' := Aside0.mk hR6
         have hB6' : Aside0 (Below w.heap.size w w6) := ⟨(below_alloc (Below.refl _ _) _).grown hg6 (by simp) (fun k hk => by simp [Value.ownBlock] at hk; omega)⟩
         clear hg6 hat6 hR6 hB6 hc6 hC6)
      | fail)
    go_ret
    exact ⟨A6, c6, rfl, hR6'.out, hB6'.out⟩
section
variable (S : DSt) (M : Gss) (b : Nat) (n : Int) (ok : Nat → Prop) (p : Nat) (w : World) (h : DAt ok w p S M b) (hn : domI n)
include h hn
theorem dfind_down (hd : S.down = true) : dfind S n = 8 := by unfold dfind; rw [if_pos hd]
theorem dfind_none (hd : S.down = false) (hx : mlook M n = none) : dfind S n = 5 := by
  unfold dfind
  rw [if_neg (by simp [hd]), h.look, hx]
  rfl
theorem dfind_some (hd : S.down = false) {x : Gs} (hx : mlook M n = some x) : dfind S n = 0 := by
  unfold dfind
  rw [if_neg (by simp [hd]), h.look, hx]
  rfl
set_option maxHeartbeats 2000000 in
set_option maxRecDepth 100000 in
theorem Read_calls (hu : used S.L ≤ 100000000) : Calls Try.prog 17 #[.pointer (some ⟨p, 0, none⟩), .int .i64 n] w fun e w' => ∃ A c, e = .returned (.tuple #[.slice A (dread S n).length c, .int .i64 (dfind S n)]) ∧ Kd.R (Kd.int .u8) 5 w' 0 (fun _ => True) (.slice A (dread S n).length c) (dread S n) ∧ Below w.heap.size w w' := by
  have hno : ∀ r, r ≠ 0 → dfind S n = r → dread S n = [] := fun r hr e => by unfold dread; rw [e, if_neg hr]
  cases hd : S.down with
  | true =>
    have hf := find_down S M b n ok p w h hd
    have e := dfind_down S M b n ok p w h hn hd
    rw [hno 8 (by decide) e, e]
    clear hno e h hd hn hu
    go_enter Try.func17, Try.ntmps17
    go_wp2_with (first | (go_at_call 49; (with_reducible refine hf.mono ?_); rintro e w' ⟨rfl, rfl⟩) | fail)
    refine bodyPost_ret (v := .tuple #[.slice none 0 0, .int .i64 8]) (by simp [results, Try.results17, go_sem]) rfl ?_
    exact ⟨none, 0, rfl, Kd.R_nil _ _ _ _ _, Below.refl _ _⟩
  | false =>
    cases hx : mlook M n with
    | none =>
      have hf := find_none S M b n ok p w h hd hn hx
      have e := dfind_none S M b n ok p w h hn hd hx
      rw [hno 5 (by decide) e, e]
      clear hno e h hd hx hn hu
      go_enter Try.func17, Try.ntmps17
      go_wp2_with (first | (go_at_call 49; (with_reducible refine hf.mono ?_); rintro e w' ⟨rfl, rfl⟩) | fail)
      refine bodyPost_ret (v := .tuple #[.slice none 0 0, .int .i64 5]) (by simp [results, Try.results17, go_sem]) rfl ?_
      exact ⟨none, 0, rfl, Kd.R_nil _ _ _ _ _, Below.refl _ _⟩
    | some x =>
      have hf := find_some S M b n ok p w h hd hn x hx
      have e := dfind_some S M b n ok p w h hn hd hx
      have e2 : dread S n = x.2.2.1 := by unfold dread; rw [e, if_pos rfl, h.sg hx]
      rw [e2, e]
      have hl : x.2.2.1.length ≤ 100000000 := by
        have := used_sg S.L n
        rw [h.sg hx] at this
        omega
      obtain ⟨s0, s1⟩ := (h.seg hx).cells
      obtain ⟨A, c, hv, hc, hC⟩ := (h.seg hx).form
      rw [hv] at s0
      obtain ⟨g, v, q, sy⟩ := x
      simp only [] at s0 hf hC hl hv ⊢
      have hcl := Aside0.mk (Clone_calls q A c w hC hl)
      clear hno e e2 h hd hx hn hu hv hC hl hc s1
      go_enter Try.func17, Try.ntmps17
      go_wp2_with (first
        | (go_at_call 49; (with_reducible refine hf.mono ?_); rintro e w' ⟨rfl, rfl⟩)
        | (go_at_call 50; (with_reducible refine hcl.out.mono ?_); rintro e w' ⟨A2, c2, rfl, hR, hB⟩)
        | fail)
      refine bodyPost_ret (v := .tuple #[.slice A2 q.length c2, .int .i64 0]) (by simp [results, Try.results17, go_sem]) rfl ?_
      exact ⟨A2, c2, rfl, hR, hB⟩
set_option maxHeartbeats 2000000 in
set_option maxRecDepth 100000 in
theorem Sync_calls : Calls Try.prog 24 #[.pointer (some ⟨p, 0, none⟩), .int .i64 n] w fun e w' => e = .returned (.int .i64 (dsync S n).2) ∧ IsD ok w' p (dsync S n).1 ∧ Fz ok w w' := by
  cases hd : S.down with
  | true =>
    have hf := find_down S M b n ok p w h hd
    have e : dsync S n = (S, 8) := by unfold dsync; rw [dfind_down S M b n ok p w h hn hd, if_neg (by decide)]
    rw [e]
    have h' := Aside0.mk h
    clear e h hd hn
    go_enter Try.func24, Try.ntmps24
    go_wp2_with (first | (go_at_call 49; (with_reducible refine hf.mono ?_); rintro e w' ⟨rfl, rfl⟩) | fail)
    go_ret
    exact ⟨rfl, ⟨_, _, h'.out⟩, Fz.refl _ _⟩
  | false =>
    cases hx : mlook M n with
    | none =>
      have hf := find_none S M b n ok p w h hd hn hx
      have e : dsync S n = (S, 5) := by unfold dsync; rw [dfind_none S M b n ok p w h hn hd hx, if_neg (by decide)]
      rw [e]
      have h' := Aside0.mk h
      clear e h hd hn hx
      go_enter Try.func24, Try.ntmps24
      go_wp2_with (first | (go_at_call 49; (with_reducible refine hf.mono ?_); rintro e w' ⟨rfl, rfl⟩) | fail)
      go_ret
      exact ⟨rfl, ⟨_, _, h'.out⟩, Fz.refl _ _⟩
    | some x =>
      have hf := find_some S M b n ok p w h hd hn x hx
      have hb := burn_calls S M b ok p w h
      have e0 := dfind_some S M b n ok p w h hn hd hx
      have e1 : (burn S).1.L = S.L := (burn_L S).1
      obtain ⟨⟨B, y⟩, hB⟩ : ∃ r, burn S = r := ⟨_, rfl⟩
      have e : dsync S n = if y = true then (B.withL (mput S.L n (x.2.2.1, x.2.2.1.length)), 0) else (B, 8) := by unfold dsync; rw [e0, if_pos rfl, hB, h.sg hx]
      rw [e]
      rw [hB] at hb e1
      simp only [] at hb e1
      obtain ⟨A, c, hv, _, _⟩ := (h.seg hx).form
      have h' := Aside0.mk h
      have hx' := Aside0.mk hx
      have e1' := Aside0.mk e1
      clear e e0 h hd hn hx hB e1
      cases y with
      | false =>
        go_enter Try.func24, Try.ntmps24
        go_wp2_with (first
          | (go_at_call 49; (with_reducible refine hf.mono ?_); rintro e w' ⟨rfl, rfl⟩)
          | (go_at_call 51; (with_reducible refine hb.mono ?_); rintro e w2 ⟨rfl, h2, k2⟩)
          | fail)
        go_ret
        exact ⟨rfl, ⟨_, _, h2⟩, k2⟩
      | true =>
        obtain ⟨g, v, q, sy⟩ := x
        simp only [] at hv hf
        subst hv
        go_enter Try.func24, Try.ntmps24
        go_wp2_with (first
          | (go_at_call 49; (with_reducible refine hf.mono ?_); rintro e w' ⟨rfl, rfl⟩)
          | (go_at_call 51; (with_reducible refine hb.mono ?_); rintro e w2 ⟨rfl, h2, k2⟩; have h2' := Aside0.mk h2; have k2' := Aside0.mk k2; have hs2 := h2.seg hx'.out; have hs2' := Aside0.mk hs2; obtain ⟨s0, s1⟩ := hs2.cells; have f1 := blk_frozen hs2.blk 1; simp only [] at s0 s1 f1; clear h2 k2 hs2)
          | fail)
        go_ret
        have hs := hs2'.out
        refine ⟨rfl, ⟨_, b, h2'.out.put (x := (g, .slice A q.length c, (q, q.length))) (n := n) ?_ ?_ ?_ ?_ ?_ ?_⟩, k2'.out.set hs.blk (by simp) hs.gk 1 _⟩
        · show mput S.L n (q, q.length) = mput B.L n (q, q.length)
          rw [e1'.out]
        · exact (Below.heap_setCell w2 ⟨g, 1, none⟩ _ p (fun e => by
            have e : p = g := e
            exact seg_far hs h2'.out.blk (by decide) e.symm)).trans h2'.out.blk
        · exact (h2'.out.map_put (x := (g, .slice A q.length c, (q, q.length))) hx'.out rfl).move (Below.heap_setCell w2 ⟨g, 1, none⟩ _ b (h2'.out.map_far hs.blk))
        · exact ⟨hs.gk, blk_put hs.blk 1 _ rfl, Kd.R_set hs.row hs.blk (by simp [Kd.int, Kd.scalar]) 1 _⟩
        · intro q' hq' hne
          exact (h2'.out.segs q' hq').other hs (h2'.out.apart q' hq' (n, _) (look_mem' hx'.out) hne).g 1 _
        · intro q' hq' hne
          have := h2'.out.apart q' hq' (n, _) (look_mem' hx'.out) hne
          exact ⟨this.g, this.row⟩
end
end Go.Proofs.Ytnplnelhodnonaa.Dsk
namespace Go.Proofs.Ytnplnelhodnonaa.Dsk
open Go.RowKit Go.Proofs.YtnplnelhodnonaaW.PrintWords Go.Proofs.YtnplnelhodnonaaW.PrintLast Go.Proofs.YtnplnelhodnonaaW.PrintMore
open Amap Frm
set_option linter.unusedVariables false
set_option linter.unusedSimpArgs false
section
variable {ok : Nat → Prop} {w w1 : World} {p b : Nat} {S S' : DSt} {M : Gss}
theorem SegAt.map {x : Gs} (h : SegAt ok w x) {m : Gss} (hm : MapIs ek gval domI w b m) (hg : w.grownBy w1 (some b)) : SegAt ok w1 x := by
  obtain ⟨es, c, hb, _⟩ := hm
  have hne : ∀ {k : Nat} {cs : Array Value} {t : Nat} {z : Nat × Nat}, w.heap[k]? = some (.cells cs t z) → some k ≠ some b := fun hc e => by
    cases e
    rw [hb] at hc
    cases hc
  refine ⟨h.gk, blk_grown h.blk hg (hne h.blk), ?_⟩
  refine Kd.R_mono (Kd.R_move (Kd.R_bound h.row) (fun k hk => ?_)) (fun k hk => hk.1)
  obtain ⟨_, _, hlt, q, hq, cells, hc⟩ := hk
  exact hg.block k hlt (hne hc)
theorem DAt.mapblk (h : DAt ok w p S M b) (hg : w.grownBy w1 (some b)) : w1.heap[p]? = some (.cells (dcs S b) 79 (0, 0)) := blk_grown h.blk hg (fun e => by
  cases e
  obtain ⟨es, c, hb, _⟩ := h.map
  rw [h.blk] at hb
  cases hb)
end
section
variable (S : DSt) (M : Gss) (b : Nat) (n : Int) (ok : Nat → Prop) (p : Nat) (w : World) (h : DAt ok w p S M b) (hn : domI n)
include h hn
set_option maxHeartbeats 2000000 in
set_option maxRecDepth 100000 in
theorem Drop_calls : Calls Try.prog 25 #[.pointer (some ⟨p, 0, none⟩), .int .i64 n] w fun e w' => e = .returned (.int .i64 (ddrop S n).2) ∧ IsD ok w' p (ddrop S n).1 ∧ Fz ok w w' := by
  cases hd : S.down with
  | true =>
    have hf := find_down S M b n ok p w h hd
    have e : ddrop S n = (S, 8) := by unfold ddrop; rw [dfind_down S M b n ok p w h hn hd, if_neg (by decide)]
    rw [e]
    have h' := Aside0.mk h
    clear e h hd hn
    go_enter Try.func25, Try.ntmps25
    go_wp2_with (first | (go_at_call 49; (with_reducible refine hf.mono ?_); rintro e w' ⟨rfl, rfl⟩) | fail)
    go_ret
    exact ⟨rfl, ⟨_, _, h'.out⟩, Fz.refl _ _⟩
  | false =>
    cases hx : mlook M n with
    | none =>
      have hf := find_none S M b n ok p w h hd hn hx
      have e : ddrop S n = (S, 5) := by unfold ddrop; rw [dfind_none S M b n ok p w h hn hd hx, if_neg (by decide)]
      rw [e]
      have h' := Aside0.mk h
      clear e h hd hn hx
      go_enter Try.func25, Try.ntmps25
      go_wp2_with (first | (go_at_call 49; (with_reducible refine hf.mono ?_); rintro e w' ⟨rfl, rfl⟩) | fail)
      go_ret
      exact ⟨rfl, ⟨_, _, h'.out⟩, Fz.refl _ _⟩
    | some x =>
      have hf := find_some S M b n ok p w h hd hn x hx
      have hb := burn_calls S M b ok p w h
      have e0 := dfind_some S M b n ok p w h hn hd hx
      have e1 : (burn S).1.L = S.L := (burn_L S).1
      obtain ⟨⟨B, y⟩, hB⟩ : ∃ r, burn S = r := ⟨_, rfl⟩
      have e : ddrop S n = if y = true then (B.withL (mdel S.L n), 0) else (B, 8) := by unfold ddrop; rw [e0, if_pos rfl, hB]
      rw [e]
      rw [hB] at hb e1
      simp only [] at hb e1
      have h' := Aside0.mk h
      have hn' := Aside0.mk hn
      have e1' := Aside0.mk e1
      clear e e0 h hd hn hx hB e1
      cases y with
      | false =>
        go_enter Try.func25, Try.ntmps25
        go_wp2_with (first
          | (go_at_call 49; (with_reducible refine hf.mono ?_); rintro e w' ⟨rfl, rfl⟩)
          | (go_at_call 51; (with_reducible refine hb.mono ?_); rintro e w2 ⟨rfl, h2, k2⟩)
          | fail)
        go_ret
        exact ⟨rfl, ⟨_, _, h2⟩, k2⟩
      | true =>
        go_enter Try.func25, Try.ntmps25
        go_wp2_with (first
          | (go_at_call 49; (with_reducible refine hf.mono ?_); rintro e w' ⟨rfl, rfl⟩)
          | (go_at_call 51; (with_reducible refine hb.mono ?_); rintro e w2 ⟨rfl, h2, k2⟩; have h2' := Aside0.mk h2; have k2' := Aside0.mk k2; obtain ⟨c0, c1, c2, c3, c4⟩ := h2.cells; obtain ⟨w3, hrun, hm3, hg3⟩ := h2.map.delete encI Try.underlying77 hn'.out 0; have hm3' := Aside0.mk hm3; have hg3' := Aside0.mk hg3; unfold ek at hrun; clear h2 k2 hm3 hg3 c1 c2 c3 c4)
          | fail)
        go_ret
        refine ⟨rfl, ⟨_, b, h2'.out.del (S' := B.withL (mdel S.L n)) (n := n) ?_ ?_ hm3'.out (fun q hq => (h2'.out.segs q hq).map h2'.out.map hg3'.out)⟩, k2'.out.map h2'.out.map h2'.out.bk hg3'.out⟩
        · show mdel S.L n = mdel B.L n
          rw [e1'.out]
        · exact h2'.out.mapblk hg3'.out
end
/-! ### how many bytes there are -/
def lenV (w : World) (v : Value) : Nat := match v with
  | .pointer (some ⟨g, 0, none⟩) => (match w.cell? ⟨g, 0, none⟩ with
    | some (.slice _ n _) => n
    | _ => 0)
  | _ => 0
theorem used_sum : ∀ L : Sgs, used L = (L.map (fun q => q.2.1.length)).sum
  | [] => rfl
  | q :: r => by rw [used, used_sum r, List.map_cons, List.sum_cons]
theorem lenV_seg {ok : Nat → Prop} {w : World} {x : Gs} (h : SegAt ok w x) : lenV w (gval x) = x.2.2.1.length := by
  obtain ⟨A, c, hv, _, _⟩ := h.form
  have h0 := h.cells.1
  rw [hv] at h0
  unfold lenV gval ep
  simp only [h0]
set_option maxHeartbeats 2000000 in
set_option maxRecDepth 100000 in
theorem Used_calls (S : DSt) (M : Gss) (b : Nat) (ok : Nat → Prop) (p : Nat) (w : World) (h : DAt ok w p S M b) (hu : used S.L ≤ 100000000) : Calls Try.prog 27 #[.pointer (some ⟨p, 0, none⟩)] w fun e w' => e = .returned (.int .i64 (used S.L : Nat)) ∧ Below w.heap.size w w' := by
  obtain ⟨c0, c1, c2, c3, c4⟩ := h.cells
  obtain ⟨es, clock, hb, he, hd, hnd, hst⟩ := h.map
  obtain ⟨hs1, hs2, hs3⟩ := hst
  have hsum : (es.toList.map (fun e => lenV w e.val)).sum = used S.L := by
    rw [used_sum, h.L, List.map_map]
    have e1 : es.toList.map (fun e => lenV w e.val) = (es.toList.map (fun e => (e.key, e.val))).map (fun q => lenV w q.2) := by rw [List.map_map]; rfl
    rw [e1, he, List.map_map]
    congr 1
    refine List.map_congr_left fun q hq => ?_
    exact lenV_seg (h.segs q hq)
  have hent : ∀ e ∈ es.toList, ∃ g A c, e.val = .pointer (some ⟨g, 0, none⟩) ∧ w.cell? ⟨g, 0, none⟩ = some (.slice A (lenV w e.val) c) := fun e hm => by
    have : (e.key, e.val) ∈ M.map (fun p => (ek p.1, gval p.2)) := by rw [← he]; exact List.mem_map.2 ⟨e, hm, rfl⟩
    obtain ⟨q, hq, e1⟩ := List.mem_map.1 this
    have e2 : e.val = gval q.2 := (congrArg Prod.snd e1).symm
    have hsg := h.segs q hq
    obtain ⟨A, c, hv, _, _⟩ := hsg.form
    refine ⟨q.2.1, A, c, e2, ?_⟩
    rw [e2, lenV_seg hsg]
    exact hsg.cells.1.trans (congrArg some hv)
  have hr := run_range_map (P := Try.prog) w 77 3 86 b es clock Try.underlying77 hb
  obtain ⟨N, hN⟩ : ∃ N, used S.L = N := ⟨_, rfl⟩
  rw [hN] at hsum hu ⊢
  have hsum' := Aside0.mk hsum
  have hent' := Aside0.mk hent
  have hb' := Aside0.mk hb
  have hs1' := Aside0.mk hs1
  have hs2' := Aside0.mk hs2
  have hu' := Aside0.mk hu
  obtain ⟨r, hsz⟩ : ∃ r, w.heap.size = r := ⟨_, rfl⟩
  have hsz' := Aside0.mk hsz
  rw [hsz] at hr
  clear hsum hent hb hs1 hs2 hs3 he hd hnd hu hN h c1 c2 c3 c4
  go_enter Try.func27, Try.ntmps27
  go_wp2_with fail
  go_loopg [3] (es.size + 1) (fun kq v3 w' => ∃ (seen : Array Nat) (c0 : Nat) (w1 : World), v3 = .int .i64 (Tape.sumSeen (fun e => lenV w e.val) es.toList seen : Nat) ∧ w' = w1.alloc (.mapIter (some b) clock seen c0) ∧ Aside0 (kq = (leftOf es seen).size + 1) ∧ Aside0 (clock ≤ c0) ∧ Aside0 (w1.Alike w) ∧ Aside0 (w1.tape = w.tape))
  case atStart =>
    refine ⟨#[], clock, w, by rw [Tape.sum_none]; rfl, rfl, ⟨?_⟩, ⟨Nat.le_refl _⟩, ⟨rfl, rfl, rfl⟩, ⟨rfl⟩⟩
    unfold leftOf
    congr 1
    rw [Array.filter_eq_self.2 (by simp)]
  case round =>
    obtain ⟨seen, c0, w1, rfl, rfl, hk, hc0, hal, htp⟩ := hrel
    rcases Tape.step (P := Try.prog) (ty := 0) (seen := seen) hsz'.out hal.out htp.out hb'.out hs1'.out hc0.out with ⟨hz, hrun⟩ | ⟨e, hmem, w2, hal2, htp2, hrun⟩
    · have hfin : Tape.sumSeen (fun e => lenV w e.val) es.toList seen = N := by rw [Tape.sum_all _ _ _ (all_seen es seen hz)]; exact hsum'.out
      rw [hfin]
      have hal' := hal
      clear hfin hz hk
      go_wp2
      go_ret
      exact ⟨rfl, Tape.below_alike hal.out htp.out _⟩
    · obtain ⟨hme, hnot⟩ := mem_left hmem
      have hstep : Tape.sumSeen (fun e => lenV w e.val) es.toList (seen.push e.born) = Tape.sumSeen (fun e => lenV w e.val) es.toList seen + lenV w e.val := Tape.sum_push (fun e => lenV w e.val) seen e hnot es.toList hs2'.out hme
      have hle := Tape.sum_le (fun e => lenV w e.val) (seen.push e.born) es.toList
      rw [hsum'.out, hstep] at hle
      have hlt := left_shrinks es seen e hmem
      obtain ⟨g, A, c, hv, hcell⟩ := hent'.out e hme
      have hent := run_entry_map (P := Try.prog) w2 b clock seen es clock e (by rw [hal2.1]; exact hb'.out) hme hs2'.out
      have hcell2 : (w2.alloc (.mapIter (some b) clock (seen.push e.born) clock)).cell? ⟨g, 0, none⟩ = some (.slice A (lenV w e.val) c) := by
        refine ((Tape.below_alike hal2 htp2 _).cell (p := ⟨g, 0, none⟩) ?_).trans hcell
        exact World.block_lt_of_cell? w _ hcell
      have hsz2 : w2.heap.size = r := by rw [hal2.1]; exact hsz'.out
      rw [hsz2] at hent
      obtain ⟨ln, hln⟩ : ∃ ln, lenV w e.val = ln := ⟨_, rfl⟩
      obtain ⟨sm, hsm⟩ : ∃ sm, Tape.sumSeen (fun e => lenV w e.val) es.toList seen = sm := ⟨_, rfl⟩
      rw [hln] at hcell2 hstep hle
      rw [hsm] at hstep hle ⊢
      rw [hv] at hrun hent
      obtain ⟨ky, hky⟩ : ∃ ky, e.key = ky := ⟨_, rfl⟩
      obtain ⟨bn, hbn⟩ : ∃ bn, e.born = bn := ⟨_, rfl⟩
      rw [hky, hbn] at hrun hent
      rw [hbn] at hstep hlt hcell2
      have hw : IntKind.i64.wrap ((sm : Int) + (ln : Int)) = ((sm + ln : Nat) : Int) := by
        have := hu'.out
        simp [IntKind.wrap, IntKind.signed, IntKind.bits]
        omega
      have hw2 : wrap64 ((sm : Int) + (ln : Int)) = ((sm + ln : Nat) : Int) := by
        have := hu'.out
        unfold wrap64
        omega
      have hstep' := Aside0.mk hstep
      have hlt' := Aside0.mk hlt
      have hal2' := Aside0.mk hal2
      have htp2' := Aside0.mk htp2
      clear hle hstep hlt hme hmem hnot hv hcell hsz2 hln hsm hky hbn hal2 htp2
      go_wp2
      go_roundg ((leftOf es (seen.push bn)).size + 1)
      case measure => have := hlt'.out; have := hk.out; omega
      case rel => exact ⟨seen.push bn, clock, w2, by rw [hstep'.out]; simp [hw], rfl, ⟨rfl⟩, ⟨Nat.le_refl _⟩, hal2', htp2'⟩
end Go.Proofs.Ytnplnelhodnonaa.Dsk
