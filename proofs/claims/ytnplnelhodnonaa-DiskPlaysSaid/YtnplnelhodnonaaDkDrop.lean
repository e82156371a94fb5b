/- The disk's functions, walked: Drop, Used. -/
import Derived.Test.YtnplnelhodnonaaDkRead
namespace Go.Proofs.Ytnplnelhodnonaa.Dsk
open Go.RowKit Go.Proofs.YtnplnelhodnonaaW.PrintWords Go.Proofs.YtnplnelhodnonaaW.PrintLast Go.Proofs.YtnplnelhodnonaaW.PrintMore
open Amap Frm
set_option linter.unusedVariables false
set_option linter.unusedSimpArgs false
section
variable {ok : Nat → Prop} {w w1 : World} {p b : Nat} {S S' : DSt} {M : Gss}
theorem SegAt.map {x : Gs} (h : SegAt ok w x) {m : Gss} (hm : MapIs ek gval domI w b m) (hg : w.grownBy w1 (some b)) : SegAt ok w1 x := by
  obtain ⟨es, c, hb, _⟩ := hm
  have hne : ∀ {k : Nat} {cs : Array Value} {t : Nat} {z : Nat × Nat}, w.heap[k]? = some (.cells cs t z) → some k ≠ some b := fun hc e => by
    cases e
    rw [hb] at hc
    cases hc
  refine ⟨h.gk, blk_grown h.blk hg (hne h.blk), ?_⟩
  refine Kd.R_mono (Kd.R_move (Kd.R_bound h.row) (fun k hk => ?_)) (fun k hk => hk.1)
  obtain ⟨_, _, hlt, q, hq, cells, hc⟩ := hk
  exact hg.block k hlt (hne hc)
theorem DAt.mapblk (h : DAt ok w p S M b) (hg : w.grownBy w1 (some b)) : w1.heap[p]? = some (.cells (dcs S b) 79 (0, 0)) := blk_grown h.blk hg (fun e => by
  cases e
  obtain ⟨es, c, hb, _⟩ := h.map
  rw [h.blk] at hb
  cases hb)
end
section
variable (S : DSt) (M : Gss) (b : Nat) (n : Int) (ok : Nat → Prop) (p : Nat) (w : World) (h : DAt ok w p S M b) (hn : domI n)
include h hn
set_option maxHeartbeats 2000000 in
set_option maxRecDepth 100000 in
theorem Drop_calls : Calls Try.prog 25 #[.pointer (some ⟨p, 0, none⟩), .int .i64 n] w fun e w' => e = .returned (.int .i64 (ddrop S n).2) ∧ IsD ok w' p (ddrop S n).1 ∧ Fz ok w w' := by
  cases hd : S.down with
  | true =>
    have hf := find_down S M b n ok p w h hd
    have e : ddrop S n = (S, 8) := by unfold ddrop; rw [dfind_down S M b n ok p w h hn hd, if_neg (by decide)]
    rw [e]
    have h' := Aside0.mk h
    clear e h hd hn
    go_enter Try.func25, Try.ntmps25
    go_wp2_with (first | (go_at_call 49; (with_reducible refine hf.mono ?_); rintro e w' ⟨rfl, rfl⟩) | fail)
    go_ret
    exact ⟨rfl, ⟨_, _, h'.out⟩, Fz.refl _ _⟩
  | false =>
    cases hx : mlook M n with
    | none =>
      have hf := find_none S M b n ok p w h hd hn hx
      have e : ddrop S n = (S, 5) := by unfold ddrop; rw [dfind_none S M b n ok p w h hn hd hx, if_neg (by decide)]
      rw [e]
      have h' := Aside0.mk h
      clear e h hd hn hx
      go_enter Try.func25, Try.ntmps25
      go_wp2_with (first | (go_at_call 49; (with_reducible refine hf.mono ?_); rintro e w' ⟨rfl, rfl⟩) | fail)
      go_ret
      exact ⟨rfl, ⟨_, _, h'.out⟩, Fz.refl _ _⟩
    | some x =>
      have hf := find_some S M b n ok p w h hd hn x hx
      have hb := burn_calls S M b ok p w h
      have e0 := dfind_some S M b n ok p w h hn hd hx
      have e1 : (burn S).1.L = S.L := (burn_L S).1
      obtain ⟨⟨B, y⟩, hB⟩ : ∃ r, burn S = r := ⟨_, rfl⟩
      have e : ddrop S n = if y = true then (B.withL (mdel S.L n), 0) else (B, 8) := by unfold ddrop; rw [e0, if_pos rfl, hB]
      rw [e]
      rw [hB] at hb e1
      simp only [] at hb e1
      have h' := Aside0.mk h
      have hn' := Aside0.mk hn
      have e1' := Aside0.mk e1
      clear e e0 h hd hn hx hB e1
      cases y with
      | false =>
        go_enter Try.func25, Try.ntmps25
        go_wp2_with (first
          | (go_at_call 49; (with_reducible refine hf.mono ?_); rintro e w' ⟨rfl, rfl⟩)
          | (go_at_call 51; (with_reducible refine hb.mono ?_); rintro e w2 ⟨rfl, h2, k2⟩)
          | fail)
        go_ret
        exact ⟨rfl, ⟨_, _, h2⟩, k2⟩
      | true =>
        go_enter Try.func25, Try.ntmps25
        go_wp2_with (first
          | (go_at_call 49; (with_reducible refine hf.mono ?_); rintro e w' ⟨rfl, rfl⟩)
          | (go_at_call 51; (with_reducible refine hb.mono ?_); rintro e w2 ⟨rfl, h2, k2⟩; have h2' := Aside0.mk h2; have k2' := Aside0.mk k2; obtain ⟨c0, c1, c2, c3, c4⟩ := h2.cells; obtain ⟨w3, hrun, hm3, hg3⟩ := h2.map.delete encI Try.underlying77 hn'.out 0; have hm3' := Aside0.mk hm3; have hg3' := Aside0.mk hg3; unfold ek at hrun; clear h2 k2 hm3 hg3 c1 c2 c3 c4)
          | fail)
        go_ret
        refine ⟨rfl, ⟨_, b, h2'.out.del (S' := B.withL (mdel S.L n)) (n := n) ?_ ?_ hm3'.out (fun q hq => (h2'.out.segs q hq).map h2'.out.map hg3'.out)⟩, k2'.out.map h2'.out.map h2'.out.bk hg3'.out⟩
        · show mdel S.L n = mdel B.L n
          rw [e1'.out]
        · exact h2'.out.mapblk hg3'.out
end
/-! ### how many bytes there are -/
def lenV (w : World) (v : Value) : Nat := match v with
  | .pointer (some ⟨g, 0, none⟩) => (match w.cell? ⟨g, 0, none⟩ with
    | some (.slice _ n _) => n
    | _ => 0)
  | _ => 0
theorem used_sum : ∀ L : Sgs, used L = (L.map (fun q => q.2.1.length)).sum
  | [] => rfl
  | q :: r => by rw [used, used_sum r, List.map_cons, List.sum_cons]
theorem lenV_seg {ok : Nat → Prop} {w : World} {x : Gs} (h : SegAt ok w x) : lenV w (gval x) = x.2.2.1.length := by
  obtain ⟨A, c, hv, _, _⟩ := h.form
  have h0 := h.cells.1
  rw [hv] at h0
  unfold lenV gval ep
  simp only [h0]
set_option maxHeartbeats 2000000 in
set_option maxRecDepth 100000 in
theorem Used_calls (S : DSt) (M : Gss) (b : Nat) (ok : Nat → Prop) (p : Nat) (w : World) (h : DAt ok w p S M b) (hu : used S.L ≤ 100000000) : Calls Try.prog 27 #[.pointer (some ⟨p, 0, none⟩)] w fun e w' => e = .returned (.int .i64 (used S.L : Nat)) ∧ Below w.heap.size w w' := by
  obtain ⟨c0, c1, c2, c3, c4⟩ := h.cells
  obtain ⟨es, clock, hb, he, hd, hnd, hst⟩ := h.map
  obtain ⟨hs1, hs2, hs3⟩ := hst
  have hsum : (es.toList.map (fun e => lenV w e.val)).sum = used S.L := by
    rw [used_sum, h.L, List.map_map]
    have e1 : es.toList.map (fun e => lenV w e.val) = (es.toList.map (fun e => (e.key, e.val))).map (fun q => lenV w q.2) := by rw [List.map_map]; rfl
    rw [e1, he, List.map_map]
    congr 1
    refine List.map_congr_left fun q hq => ?_
    exact lenV_seg (h.segs q hq)
  have hent : ∀ e ∈ es.toList, ∃ g A c, e.val = .pointer (some ⟨g, 0, none⟩) ∧ w.cell? ⟨g, 0, none⟩ = some (.slice A (lenV w e.val) c) := fun e hm => by
    have : (e.key, e.val) ∈ M.map (fun p => (ek p.1, gval p.2)) := by rw [← he]; exact List.mem_map.2 ⟨e, hm, rfl⟩
    obtain ⟨q, hq, e1⟩ := List.mem_map.1 this
    have e2 : e.val = gval q.2 := (congrArg Prod.snd e1).symm
    have hsg := h.segs q hq
    obtain ⟨A, c, hv, _, _⟩ := hsg.form
    refine ⟨q.2.1, A, c, e2, ?_⟩
    rw [e2, lenV_seg hsg]
    exact hsg.cells.1.trans (congrArg some hv)
  have hr := run_range_map (P := Try.prog) w 77 3 86 b es clock Try.underlying77 hb
  obtain ⟨N, hN⟩ : ∃ N, used S.L = N := ⟨_, rfl⟩
  rw [hN] at hsum hu ⊢
  have hsum' := Aside0.mk hsum
  have hent' := Aside0.mk hent
  have hb' := Aside0.mk hb
  have hs1' := Aside0.mk hs1
  have hs2' := Aside0.mk hs2
  have hu' := Aside0.mk hu
  obtain ⟨r, hsz⟩ : ∃ r, w.heap.size = r := ⟨_, rfl⟩
  have hsz' := Aside0.mk hsz
  rw [hsz] at hr
  clear hsum hent hb hs1 hs2 hs3 he hd hnd hu hN h c1 c2 c3 c4
  go_enter Try.func27, Try.ntmps27
  go_wp2_with fail
  go_loopg [3] (es.size + 1) (fun kq v3 w' => ∃ (seen : Array Nat) (c0 : Nat) (w1 : World), v3 = .int .i64 (Tape.sumSeen (fun e => lenV w e.val) es.toList seen : Nat) ∧ w' = w1.alloc (.mapIter (some b) clock seen c0) ∧ Aside0 (kq = (leftOf es seen).size + 1) ∧ Aside0 (clock ≤ c0) ∧ Aside0 (w1.Alike w) ∧ Aside0 (w1.tape = w.tape))
  case atStart =>
    refine ⟨#[], clock, w, by rw [Tape.sum_none]; rfl, rfl, ⟨?_⟩, ⟨Nat.le_refl _⟩, ⟨rfl, rfl, rfl⟩, ⟨rfl⟩⟩
    unfold leftOf
    congr 1
    rw [Array.filter_eq_self.2 (by simp)]
  case round =>
    obtain ⟨seen, c0, w1, rfl, rfl, hk, hc0, hal, htp⟩ := hrel
    rcases Tape.step (P := Try.prog) (ty := 0) (seen := seen) hsz'.out hal.out htp.out hb'.out hs1'.out hc0.out with ⟨hz, hrun⟩ | ⟨e, hmem, w2, hal2, htp2, hrun⟩
    · have hfin : Tape.sumSeen (fun e => lenV w e.val) es.toList seen = N := by rw [Tape.sum_all _ _ _ (all_seen es seen hz)]; exact hsum'.out
      rw [hfin]
      have hal' := hal
      clear hfin hz hk
      go_wp2
      go_ret
      exact ⟨rfl, Tape.below_alike hal.out htp.out _⟩
    · obtain ⟨hme, hnot⟩ := mem_left hmem
      have hstep : Tape.sumSeen (fun e => lenV w e.val) es.toList (seen.push e.born) = Tape.sumSeen (fun e => lenV w e.val) es.toList seen + lenV w e.val := Tape.sum_push (fun e => lenV w e.val) seen e hnot es.toList hs2'.out hme
      have hle := Tape.sum_le (fun e => lenV w e.val) (seen.push e.born) es.toList
      rw [hsum'.out, hstep] at hle
      have hlt := left_shrinks es seen e hmem
      obtain ⟨g, A, c, hv, hcell⟩ := hent'.out e hme
      have hent := run_entry_map (P := Try.prog) w2 b clock seen es clock e (by rw [hal2.1]; exact hb'.out) hme hs2'.out
      have hcell2 : (w2.alloc (.mapIter (some b) clock (seen.push e.born) clock)).cell? ⟨g, 0, none⟩ = some (.slice A (lenV w e.val) c) := by
        refine ((Tape.below_alike hal2 htp2 _).cell (p := ⟨g, 0, none⟩) ?_).trans hcell
        exact World.block_lt_of_cell? w _ hcell
      have hsz2 : w2.heap.size = r := by rw [hal2.1]; exact hsz'.out
      rw [hsz2] at hent
      obtain ⟨ln, hln⟩ : ∃ ln, lenV w e.val = ln := ⟨_, rfl⟩
      obtain ⟨sm, hsm⟩ : ∃ sm, Tape.sumSeen (fun e => lenV w e.val) es.toList seen = sm := ⟨_, rfl⟩
      rw [hln] at hcell2 hstep hle
      rw [hsm] at hstep hle ⊢
      rw [hv] at hrun hent
      obtain ⟨ky, hky⟩ : ∃ ky, e.key = ky := ⟨_, rfl⟩
      obtain ⟨bn, hbn⟩ : ∃ bn, e.born = bn := ⟨_, rfl⟩
      rw [hky, hbn] at hrun hent
      rw [hbn] at hstep hlt hcell2
      have hw : IntKind.i64.wrap ((sm : Int) + (ln : Int)) = ((sm + ln : Nat) : Int) := by
        have := hu'.out
        simp [IntKind.wrap, IntKind.signed, IntKind.bits]
        omega
      have hw2 : wrap64 ((sm : Int) + (ln : Int)) = ((sm + ln : Nat) : Int) := by
        have := hu'.out
        unfold wrap64
        omega
      have hstep' := Aside0.mk hstep
      have hlt' := Aside0.mk hlt
      have hal2' := Aside0.mk hal2
      have htp2' := Aside0.mk htp2
      clear hle hstep hlt hme hmem hnot hv hcell hsz2 hln hsm hky hbn hal2 htp2
      go_wp2
      go_roundg ((leftOf es (seen.push bn)).size + 1)
      case measure => have := hlt'.out; have := hk.out; omega
      case rel => exact ⟨seen.push bn, clock, w2, by rw [hstep'.out]; simp [hw], rfl, ⟨rfl⟩, ⟨Nat.le_refl _⟩, hal2', htp2'⟩
end Go.Proofs.Ytnplnelhodnonaa.Dsk
