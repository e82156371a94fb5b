/- The disk's functions, walked: Clone, Read, Sync, Drop, Used. -/
import Derived.Test.YtnplnelhodnonaaDkCalls
namespace Go.Proofs.Ytnplnelhodnonaa.Dsk
open Go.RowKit Go.Proofs.YtnplnelhodnonaaW.PrintWords Go.Proofs.YtnplnelhodnonaaW.PrintLast Go.Proofs.YtnplnelhodnonaaW.PrintMore
open Amap Frm
set_option linter.unusedVariables false
set_option linter.unusedSimpArgs false
set_option linter.unusedSectionVars false
theorem info5' : (Try.prog.info? 5).map (fun i => (i.zero, i.size, i.bytes)) = some (some (.int .u8 0), 1, 1) := by kernel_rfl
theorem R_mt5 {w : World} {g : Nat} (h : w.heap[g]? = some (.cells #[] 5 (0, 0))) (base : Nat) (hb : base ≤ g) : Kd.R (Kd.int .u8) 5 w base (fun _ => True) (.slice (some ⟨g, 0, none⟩) 0 0) [] := Frm.R_mtk (Kd.int .u8) h hb trivial
set_option maxHeartbeats 2000000 in
set_option maxRecDepth 100000 in
/-- slices.Clone of bytes. -/
theorem Clone_calls (L : List Int) (A : Option Addr) (cp : Nat) (w : World) (hC : Kd.C (Kd.int .u8) w A L.length L) (hL : L.length ≤ 100000000) : Calls Try.prog 50 #[.slice A L.length cp] w fun e w' => ∃ A2 c2, e = .returned (.slice A2 L.length c2) ∧ Kd.R (Kd.int .u8) 5 w' 0 (fun _ => True) (.slice A2 L.length c2) L ∧ Below w.heap.size w w' := by
  have hq : ∀ (W : World) (a : Option Addr) (n c n' c' : Nat), (binOp .eql 30 (.slice a n c) (.slice none n' c')).run Try.prog W = .ok (.bool a.isNone) W := fun W a n c n' c' => Lib.run_eql_slice_nil W _ _ a n c n' c' Try.underlying30
  have hC' := Aside0.mk hC
  have hL' := Aside0.mk hL
  clear hC hL
  cases A with
  | none =>
    have e : L = [] := by
      cases L with
      | nil => rfl
      | cons x L =>
        obtain ⟨A, hA, _⟩ := hC'.out.2.2 (by simp)
        cases hA
    subst e
    go_enter Try.func50, Try.ntmps50
    go_wp2
    go_ret
    exact ⟨none, 0, rfl, Kd.R_nil _ _ _ _ _, Below.refl _ _⟩
  | some ad =>
    go_enter Try.func50, Try.ntmps50
    go_wp2_with (first
      | ((with_reducible refine gate_builtin (b := .append) (xs := #[.tmp 5, .tmp 6]) rfl ?_); at_builtin
         refine Kd.R_append_row (Value.int .u8) 0 (w0 := w) 0 rfl (.tmp 5) (.tmp 6) 30 5 (.int .u8 0) 1 rfl Try.underlying30 info5' rfl (by decide) (.slice (some ⟨w.heap.size, 0, none⟩) 0 0) [] L (some ad) L.length cp (fun _ => True) rfl rfl (fun _ _ => trivial) (R_mt5 (blk_new _ _) 0 (Nat.zero_le _)) (Kd.C_below hC'.out (below_alloc (Below.refl _ _) _)) (below0 (below_alloc (Below.refl _ _) _)) (Nat.zero_le _) (by have := hL'.out; simp; omega) ?_
         intro v6 w6 hR6 hB6 hg6 hat6
         rw [List.nil_append] at hR6
         obtain ⟨A6, c6, e6, hc6, hC6⟩ := Kd.R_reads hR6
         subst e6
         have hR6' := Aside0.mk hR6
         have hB6' : Aside0 (Below w.heap.size w w6) := ⟨(below_alloc (Below.refl _ _) _).grown hg6 (by simp) (fun k hk => by simp [Value.ownBlock] at hk; omega)⟩
         clear hg6 hat6 hR6 hB6 hc6 hC6)
      | fail)
    go_ret
    exact ⟨A6, c6, rfl, hR6'.out, hB6'.out⟩
section
variable (S : DSt) (M : Gss) (b : Nat) (n : Int) (ok : Nat → Prop) (p : Nat) (w : World) (h : DAt ok w p S M b) (hn : domI n)
include h hn
theorem dfind_down (hd : S.down = true) : dfind S n = 8 := by unfold dfind; rw [if_pos hd]
theorem dfind_none (hd : S.down = false) (hx : mlook M n = none) : dfind S n = 5 := by
  unfold dfind
  rw [if_neg (by simp [hd]), h.look, hx]
  rfl
theorem dfind_some (hd : S.down = false) {x : Gs} (hx : mlook M n = some x) : dfind S n = 0 := by
  unfold dfind
  rw [if_neg (by simp [hd]), h.look, hx]
  rfl
set_option maxHeartbeats 2000000 in
set_option maxRecDepth 100000 in
theorem Read_calls (hu : used S.L ≤ 100000000) : Calls Try.prog 17 #[.pointer (some ⟨p, 0, none⟩), .int .i64 n] w fun e w' => ∃ A c, e = .returned (.tuple #[.slice A (dread S n).length c, .int .i64 (dfind S n)]) ∧ Kd.R (Kd.int .u8) 5 w' 0 (fun _ => True) (.slice A (dread S n).length c) (dread S n) ∧ Below w.heap.size w w' := by
  have hno : ∀ r, r ≠ 0 → dfind S n = r → dread S n = [] := fun r hr e => by unfold dread; rw [e, if_neg hr]
  cases hd : S.down with
  | true =>
    have hf := find_down S M b n ok p w h hd
    have e := dfind_down S M b n ok p w h hn hd
    rw [hno 8 (by decide) e, e]
    clear hno e h hd hn hu
    go_enter Try.func17, Try.ntmps17
    go_wp2_with (first | (go_at_call 49; (with_reducible refine hf.mono ?_); rintro e w' ⟨rfl, rfl⟩) | fail)
    refine bodyPost_ret (v := .tuple #[.slice none 0 0, .int .i64 8]) (by simp [results, Try.results17, go_sem]) rfl ?_
    exact ⟨none, 0, rfl, Kd.R_nil _ _ _ _ _, Below.refl _ _⟩
  | false =>
    cases hx : mlook M n with
    | none =>
      have hf := find_none S M b n ok p w h hd hn hx
      have e := dfind_none S M b n ok p w h hn hd hx
      rw [hno 5 (by decide) e, e]
      clear hno e h hd hx hn hu
      go_enter Try.func17, Try.ntmps17
      go_wp2_with (first | (go_at_call 49; (with_reducible refine hf.mono ?_); rintro e w' ⟨rfl, rfl⟩) | fail)
      refine bodyPost_ret (v := .tuple #[.slice none 0 0, .int .i64 5]) (by simp [results, Try.results17, go_sem]) rfl ?_
      exact ⟨none, 0, rfl, Kd.R_nil _ _ _ _ _, Below.refl _ _⟩
    | some x =>
      have hf := find_some S M b n ok p w h hd hn x hx
      have e := dfind_some S M b n ok p w h hn hd hx
      have e2 : dread S n = x.2.2.1 := by unfold dread; rw [e, if_pos rfl, h.sg hx]
      rw [e2, e]
      have hl : x.2.2.1.length ≤ 100000000 := by
        have := used_sg S.L n
        rw [h.sg hx] at this
        omega
      obtain ⟨s0, s1⟩ := (h.seg hx).cells
      obtain ⟨A, c, hv, hc, hC⟩ := (h.seg hx).form
      rw [hv] at s0
      obtain ⟨g, v, q, sy⟩ := x
      simp only [] at s0 hf hC hl hv ⊢
      have hcl := Aside0.mk (Clone_calls q A c w hC hl)
      clear hno e e2 h hd hx hn hu hv hC hl hc s1
      go_enter Try.func17, Try.ntmps17
      go_wp2_with (first
        | (go_at_call 49; (with_reducible refine hf.mono ?_); rintro e w' ⟨rfl, rfl⟩)
        | (go_at_call 50; (with_reducible refine hcl.out.mono ?_); rintro e w' ⟨A2, c2, rfl, hR, hB⟩)
        | fail)
      refine bodyPost_ret (v := .tuple #[.slice A2 q.length c2, .int .i64 0]) (by simp [results, Try.results17, go_sem]) rfl ?_
      exact ⟨A2, c2, rfl, hR, hB⟩
set_option maxHeartbeats 2000000 in
set_option maxRecDepth 100000 in
theorem Sync_calls : Calls Try.prog 24 #[.pointer (some ⟨p, 0, none⟩), .int .i64 n] w fun e w' => e = .returned (.int .i64 (dsync S n).2) ∧ IsD ok w' p (dsync S n).1 ∧ Fz ok w w' := by
  cases hd : S.down with
  | true =>
    have hf := find_down S M b n ok p w h hd
    have e : dsync S n = (S, 8) := by unfold dsync; rw [dfind_down S M b n ok p w h hn hd, if_neg (by decide)]
    rw [e]
    have h' := Aside0.mk h
    clear e h hd hn
    go_enter Try.func24, Try.ntmps24
    go_wp2_with (first | (go_at_call 49; (with_reducible refine hf.mono ?_); rintro e w' ⟨rfl, rfl⟩) | fail)
    go_ret
    exact ⟨rfl, ⟨_, _, h'.out⟩, Fz.refl _ _⟩
  | false =>
    cases hx : mlook M n with
    | none =>
      have hf := find_none S M b n ok p w h hd hn hx
      have e : dsync S n = (S, 5) := by unfold dsync; rw [dfind_none S M b n ok p w h hn hd hx, if_neg (by decide)]
      rw [e]
      have h' := Aside0.mk h
      clear e h hd hn hx
      go_enter Try.func24, Try.ntmps24
      go_wp2_with (first | (go_at_call 49; (with_reducible refine hf.mono ?_); rintro e w' ⟨rfl, rfl⟩) | fail)
      go_ret
      exact ⟨rfl, ⟨_, _, h'.out⟩, Fz.refl _ _⟩
    | some x =>
      have hf := find_some S M b n ok p w h hd hn x hx
      have hb := burn_calls S M b ok p w h
      have e0 := dfind_some S M b n ok p w h hn hd hx
      have e1 : (burn S).1.L = S.L := (burn_L S).1
      obtain ⟨⟨B, y⟩, hB⟩ : ∃ r, burn S = r := ⟨_, rfl⟩
      have e : dsync S n = if y = true then (B.withL (mput S.L n (x.2.2.1, x.2.2.1.length)), 0) else (B, 8) := by unfold dsync; rw [e0, if_pos rfl, hB, h.sg hx]
      rw [e]
      rw [hB] at hb e1
      simp only [] at hb e1
      obtain ⟨A, c, hv, _, _⟩ := (h.seg hx).form
      have h' := Aside0.mk h
      have hx' := Aside0.mk hx
      have e1' := Aside0.mk e1
      clear e e0 h hd hn hx hB e1
      cases y with
      | false =>
        go_enter Try.func24, Try.ntmps24
        go_wp2_with (first
          | (go_at_call 49; (with_reducible refine hf.mono ?_); rintro e w' ⟨rfl, rfl⟩)
          | (go_at_call 51; (with_reducible refine hb.mono ?_); rintro e w2 ⟨rfl, h2, k2⟩)
          | fail)
        go_ret
        exact ⟨rfl, ⟨_, _, h2⟩, k2⟩
      | true =>
        obtain ⟨g, v, q, sy⟩ := x
        simp only [] at hv hf
        subst hv
        go_enter Try.func24, Try.ntmps24
        go_wp2_with (first
          | (go_at_call 49; (with_reducible refine hf.mono ?_); rintro e w' ⟨rfl, rfl⟩)
          | (go_at_call 51; (with_reducible refine hb.mono ?_); rintro e w2 ⟨rfl, h2, k2⟩; have h2' := Aside0.mk h2; have k2' := Aside0.mk k2; have hs2 := h2.seg hx'.out; have hs2' := Aside0.mk hs2; obtain ⟨s0, s1⟩ := hs2.cells; have f1 := blk_frozen hs2.blk 1; simp only [] at s0 s1 f1; clear h2 k2 hs2)
          | fail)
        go_ret
        have hs := hs2'.out
        refine ⟨rfl, ⟨_, b, h2'.out.put (x := (g, .slice A q.length c, (q, q.length))) (n := n) ?_ ?_ ?_ ?_ ?_ ?_⟩, k2'.out.set hs.blk (by simp) hs.gk 1 _⟩
        · show mput S.L n (q, q.length) = mput B.L n (q, q.length)
          rw [e1'.out]
        · exact (Below.heap_setCell w2 ⟨g, 1, none⟩ _ p (fun e => by
            have e : p = g := e
            exact seg_far hs h2'.out.blk (by decide) e.symm)).trans h2'.out.blk
        · exact (h2'.out.map_put (x := (g, .slice A q.length c, (q, q.length))) hx'.out rfl).move (Below.heap_setCell w2 ⟨g, 1, none⟩ _ b (h2'.out.map_far hs.blk))
        · exact ⟨hs.gk, blk_put hs.blk 1 _ rfl, Kd.R_set hs.row hs.blk (by simp [Kd.int, Kd.scalar]) 1 _⟩
        · intro q' hq' hne
          exact (h2'.out.segs q' hq').other hs (h2'.out.apart q' hq' (n, _) (look_mem' hx'.out) hne).g 1 _
        · intro q' hq' hne
          have := h2'.out.apart q' hq' (n, _) (look_mem' hx'.out) hne
          exact ⟨this.g, this.row⟩
end
end Go.Proofs.Ytnplnelhodnonaa.Dsk
