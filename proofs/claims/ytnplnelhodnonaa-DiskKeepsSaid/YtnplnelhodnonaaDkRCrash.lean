/- The document's disk: Crash, walked. -/
import Derived.Test.YtnplnelhodnonaaDkRDrop
import Derived.Deep.RegionHeld3
namespace Go.Proofs.Ytnplnelhodnonaa.Dsk
open Go.RowKit Go.Proofs.YtnplnelhodnonaaW.PrintWords Go.Proofs.YtnplnelhodnonaaW.PrintLast Go.Proofs.YtnplnelhodnonaaW.PrintMore
open Amap Frm
set_option linter.unusedVariables false
set_option linter.unusedSimpArgs false
set_option linter.unusedSectionVars false
theorem sdrop {L : Sgs} {i : Nat} {q : Int × Sg} (h : L[i]? = some q) : L.drop i = q :: L.drop (i + 1) := by
  obtain ⟨hl, e⟩ := List.getElem?_eq_some_iff.1 h
  rw [← e]
  exact List.drop_eq_getElem_cons hl
theorem cut5 {w : World} {ok : Nat → Prop} {A2 : Option Addr} {m c2 : Nat} {ys : List Int} (hq : Kd.Q (Kd.int .u8) 5 w 0 ok (.slice A2 m c2) ys) {n : Nat} (hn : n ≤ m) :
    (∀ W : World, (Instr.slice 30 (.slice A2 m c2) none (some (.int .i64 (n : Int))) none).run Try.prog W = .ok (.slice A2 n c2) W) ∧ Kd.Q (Kd.int .u8) 5 w 0 ok (.slice A2 n c2) (ys.take n) := by
  obtain ⟨hm, hmc, _⟩ := Kd.Q_reads' hq
  obtain ⟨i0, hi0, hz⟩ := Option.map_eq_some_iff.1 info5'
  simp only [Prod.mk.injEq] at hz
  have h1 := cut_to (P := Try.prog) 30 5 .i64 Try.underlying30 hi0 A2 m c2 (n : Int) (by omega) (by omega) hmc
  rw [show ((n : Int)).toNat = n from by simp] at h1
  exact ⟨h1, Kd.Q_take hq (by omega)⟩
section
variable (R : RSt) (keep : List Int) (A : Option Addr) (cp : Nat) (hl : R.L.length ≤ 100000) (hu : used R.L ≤ 50000000) (hgd : ∀ q ∈ R.L, q.2.2 ≤ q.2.1.length) (ok : Nat → Prop) (p : Nat) (w : World) (hok : ∀ k, w.heap.size ≤ k → ok k) (h : IsR ok w p R) (hkl : keep.length ≤ 100000) (hkeep : Kd.C (Kd.int .i64) w A keep.length keep) (hck : keep.length ≤ cp)
include hl hu hgd hok h hkl hkeep hck
set_option maxHeartbeats 4000000 in
set_option maxRecDepth 100000 in
theorem RCrash_calls : Calls Try.prog 39 #[.pointer (some ⟨p, 0, none⟩), .slice A keep.length cp] w fun e w' => e = .returned (.tuple #[]) ∧ IsR ok w' p (rcrash R keep) ∧ Fy ok w w' := by
  obtain ⟨v, h⟩ := h
  obtain ⟨Av, cap, rfl, hcap⟩ := h.form
  obtain ⟨c0, c1, c2, c3⟩ := h.cells
  have h' := Aside0.mk h
  have hok' := Aside0.mk hok
  have hkeep' := Aside0.mk hkeep
  have hpl : p < w.heap.size := blk_lt h.blk
  have hpres : Aside0 (∀ (i : Nat) (q : Int × Sg), R.L[i]? = some q → q.2.2 ≤ q.2.1.length ∧ q.2.1.length ≤ 50000000) := ⟨fun i q hq => by
    have hm := List.mem_of_getElem? hq
    exact ⟨hgd q hm, Nat.le_trans (used_mem hm) hu⟩⟩
  clear h hok hkeep hgd hu c1 c2 c3
  go_enter Try.func39, Try.ntmps39
  go_wp2_with fail
  go_loopg [14, 4] (R.L.length + 1) (fun kq v14 v4 w' => ∃ (i : Nat) (D : Sgs), v14 = .int .i64 (i : Int) ∧ Aside0 (kq + i = R.L.length + 1) ∧ Aside0 (i ≤ R.L.length) ∧ Aside0 (Kd.R kSeg 81 w' 0 (fun k => w.heap.size ≤ k) v4 D) ∧ Aside0 (D ++ rcrashL keep i (R.L.drop i) = rcrashL keep 0 R.L) ∧ Aside0 (D.length ≤ i) ∧ Aside0 (Below w.heap.size w w'))
  case atStart => exact ⟨0, [], rfl, ⟨by omega⟩, ⟨by omega⟩, ⟨Kd.R_nil _ _ _ _ _⟩, ⟨rfl⟩, ⟨Nat.le_refl _⟩, ⟨Below.refl _ _⟩⟩
  case round =>
    obtain ⟨i, D, rfl, hk, hi, hD, hcr, hdl, hB⟩ := hrel
    have hszr : w.heap.size ≤ wr.heap.size := hB.out.size
    have y0 : wr.cell? ⟨p, 0, none⟩ = some (.slice Av R.L.length cap) := keepx c0 hB.out
    by_cases hlt : i < R.L.length
    · have hd : decide ((i : Int) < (R.L.length : Int)) = true := decide_eq_true (by omega)
      have hd' : decide (i < R.L.length) = true := decide_eq_true hlt
      cases gk with
      | zero => exact absurd hk.out (by omega)
      | succ k1 =>
        obtain ⟨⟨qn, q, sy⟩, hq⟩ : ∃ q, R.L[i]? = some q := ⟨_, List.getElem?_eq_getElem hlt⟩
        obtain ⟨g0, A2, c2, e3, x0, x1, x2, _, _, hrow⟩ := (h'.out.below hB.out).elem hq
        subst e3
        obtain ⟨hu2, hu3⟩ := hpres.out i _ hq
        have hdrop := Aside0.mk (sdrop hq)
        simp only [] at x0 x1 x2 hrow hu2 hu3
        have hlt' := Aside0.mk hlt
        obtain ⟨st, hst⟩ : ∃ st, stay keep i (q, sy) = st := ⟨_, rfl⟩
        have hst' := Aside0.mk hst
        have hstl : st ≤ q.length ∧ sy ≤ st := by rw [← hst]; exact stay_le keep i (q, sy) hu2
        have p1 : 0 ≤ (i : Int) := by omega
        have q1 : (i : Int) < (R.L.length : Int) := by omega
        have hsub : IntKind.i64.wrap ((q.length : Int) - (sy : Int)) = ((q.length - sy : Nat) : Int) := by simp [IntKind.wrap, IntKind.signed, IntKind.bits]; omega
        have hsub' : (q.length : Int) - (sy : Int) = ((q.length - sy : Nat) : Int) := by omega
        have hq' := Aside0.mk (Kd.Q_mono (Kd.Q_bound (Kd.Q_of_R hrow)) (ok' := fun k => k < wr.heap.size) (fun k hk => hk.2.2.1))
        clear hst hq hrow hlt
        go_upto_region 5 with fail
        refine wp_world (fun W hW => ?_)
        have hO : Aside0 (W.heap[wr.heap.size]? = some (.cells #[.int .i64 qn, .slice A2 q.length c2, .int .i64 (sy : Nat)] 81 (0, 0))) := ⟨by rw [hW]; exact blk_new _ _⟩
        have hbW : Aside0 (Below wr.heap.size wr W) := ⟨by rw [hW]; exact below_alloc (Below.refl _ _) _⟩
        have hWs : wr.heap.size < W.heap.size := by rw [hW]; simp
        have hD2 := Aside0.mk (Kd.R_below hD.out hbW.out)
        have hlt4 := Aside0.mk (Kd.R_lt hD.out)
        have hB2 := Aside0.mk (hB.out.trans (hbW.out.mono hszr))
        have hq2 := Aside0.mk (Kd.Q_below hq'.out hbW.out)
        have hCk := Aside0.mk (Kd.C_below hkeep'.out hB2.out)
        obtain ⟨g, hg⟩ : ∃ g, wr.heap.size = g := ⟨_, rfl⟩
        rw [hg] at hO hWs hq2 hlt4
        rw [hg]
        have hgb : Aside0 (w.heap.size ≤ g) := ⟨by omega⟩
        obtain ⟨s0, s1, s2⟩ : W.cell? ⟨g, 0, none⟩ = some (.int .i64 qn) ∧ W.cell? ⟨g, 1, none⟩ = some (.slice A2 q.length c2) ∧ W.cell? ⟨g, 2, none⟩ = some (.int .i64 (sy : Nat)) := ⟨(blk_cell hO.out 0).trans rfl, (blk_cell hO.out 1).trans rfl, (blk_cell hO.out 2).trans rfl⟩
        clear hW hbW hD hB hq' hg hszr y0 x0 x1 x2
        go_upto_if 26 with fail
        go_cut [7] (fun v7 wx => v7 = .int .i64 ((st - sy : Nat) : Int) ∧ ∃ nq, wx = W.drewN nq)
        case first =>
          by_cases hk0 : keep = []
          · have e1 : st = sy := by rw [← hst'.out]; unfold stay; rw [if_pos hk0]
            have e2 : keep.length = 0 := by rw [hk0]; rfl
            have hk1 : ¬ ((keep.length : Int) > 0) := by omega
            have e3 := Aside0.mk e1
            clear e1 hk0 e2
            go_wp2_with fail
            go_meet
            refine ⟨?_, 0, rfl⟩
            rw [e3.out]
            simp
          · have hkp : 0 < keep.length := by
              rcases Nat.eq_zero_or_pos keep.length with h0 | h0
              · exact absurd (List.eq_nil_of_length_eq_zero h0) hk0
              · exact h0
            have hmod : i % keep.length < keep.length := Nat.mod_lt _ hkp
            obtain ⟨ak, hAk, hck0⟩ := Kd.at_int hCk.out ((i % keep.length : Nat) : Int) (by omega) (by omega)
            subst hAk
            rw [Int.toNat_natCast] at hck0
            obtain ⟨kv, hkv⟩ : ∃ kv, rd keep ((i % keep.length : Nat) : Int) = kv := ⟨_, rfl⟩
            rw [hkv] at hck0
            have hstv : Aside0 (st = sy + (min (max kv 0) ((q.length : Int) - sy)).toNat) := ⟨by
              rw [← hst'.out, ← hkv]
              unfold stay rd
              rw [if_neg hk0, Int.toNat_natCast]⟩
            have hk1 : (keep.length : Int) > 0 := by omega
            have hrem : Int.tmod (i : Int) (keep.length : Int) = ((i % keep.length : Nat) : Int) := (Int.ofNat_tmod i keep.length).symm
            obtain ⟨mi, hmi⟩ : ∃ mi, i % keep.length = mi := ⟨_, rfl⟩
            rw [hmi] at hck0 hrem hmod
            have m0 : 0 ≤ (mi : Int) := by omega
            have m1 : (mi : Int) < (keep.length : Int) := by omega
            have mw : IntKind.i64.wrap (mi : Int) = (mi : Int) := by simp [IntKind.wrap, IntKind.signed, IntKind.bits]; omega
            have kz : ¬ (keep.length = 0) := by omega
            have e1 := Aside0.mk (show min (max kv 0) ((q.length - sy : Nat) : Int) = ((st - sy : Nat) : Int) by rw [hstv.out]; omega)
            clear hk0 hmi hkv
            go_upto_region 7 with fail
            go_quiet (fail)
            go_wp2_with fail
            go_meet
            exact ⟨by rw [e1.out], _, rfl⟩
        case rest =>
          obtain ⟨rfl, nq, rfl⟩ := hcut
          go_upto_region 8 with fail
          refine wp_world (fun W2 hW2 => ?_)
          have hO2 : Aside0 (W2.heap[g]? = some (.cells #[.int .i64 qn, .slice A2 q.length c2, .int .i64 (sy : Nat)] 81 (0, 0))) := ⟨by rw [hW2]; exact hO.out⟩
          have hbW : Below W.heap.size W W2 := by rw [hW2]; exact pw_below_drewN (Below.refl _ _) _
          have hD3 := Aside0.mk (Kd.R_below hD2.out hbW)
          have hB3 := Aside0.mk (hB2.out.trans (hbW.mono hB2.out.size))
          have hq3 := Aside0.mk (Kd.Q_below hq2.out hbW)
          have hWs2 : g < W2.heap.size := Nat.lt_of_lt_of_le hWs hbW.size
          obtain ⟨t0, t1, t2⟩ : W2.cell? ⟨g, 0, none⟩ = some (.int .i64 qn) ∧ W2.cell? ⟨g, 1, none⟩ = some (.slice A2 q.length c2) ∧ W2.cell? ⟨g, 2, none⟩ = some (.int .i64 (sy : Nat)) := ⟨(blk_cell hO2.out 0).trans rfl, (blk_cell hO2.out 1).trans rfl, (blk_cell hO2.out 2).trans rfl⟩
          have hcw : IntKind.i64.wrap ((sy : Int) + ((st - sy : Nat) : Int)) = (st : Int) := by rw [show (sy : Int) + ((st - sy : Nat) : Int) = (st : Int) by omega]; simp [IntKind.wrap, IntKind.signed, IntKind.bits]; omega
          clear hW2 hbW hO hD2 hB2 hq2 hCk s0 s1 s2 hsub hsub'
          by_cases hz : st = 0
          · have hcr2 : Aside0 (D ++ rcrashL keep (i + 1) (R.L.drop (i + 1)) = rcrashL keep 0 R.L) := ⟨by
              have h9 := hcr.out
              rw [hdrop.out] at h9
              have e : rcrashL keep i ((qn, q, sy) :: R.L.drop (i + 1)) = rcrashL keep (i + 1) (R.L.drop (i + 1)) := by
                rw [rcrashL]
                rw [show stay keep i (qn, q, sy).2 = 0 from hst'.out.trans hz, if_pos rfl]
              rw [e] at h9
              exact h9⟩
            have hsy : sy = 0 := by omega
            subst hz hsy
            clear t0 t1 hstl
            go_wp2_with fail
            go_roundg k1
            case measure => have := hk.out; omega
            case rel => exact ⟨i + 1, D, by have := hl; have := hlt'.out; go_num, ⟨by have := hk.out; omega⟩, ⟨by have := hlt'.out; omega⟩, hD3, hcr2, ⟨by have := hdl.out; omega⟩, hB3⟩
          · have hz' : ((st : Int) == 0) = false := by simp; exact hz
            have hcr2 : Aside0 ((D ++ [(qn, (q.take st, st))]) ++ rcrashL keep (i + 1) (R.L.drop (i + 1)) = rcrashL keep 0 R.L) := ⟨by
              have h9 := hcr.out
              rw [hdrop.out] at h9
              have e : rcrashL keep i ((qn, q, sy) :: R.L.drop (i + 1)) = (qn, (q.take st, st)) :: rcrashL keep (i + 1) (R.L.drop (i + 1)) := by
                rw [rcrashL]
                rw [show stay keep i (qn, q, sy).2 = st from hst'.out, if_neg hz]
                unfold Dsk.cut
                rw [show stay keep i (qn, q, sy).2 = st from hst'.out]
              rw [e] at h9
              rw [List.append_assoc]
              exact h9⟩
            obtain ⟨hcut1, hqt⟩ := cut5 hq3.out hstl.1
            have hqt' := Aside0.mk hqt
            have hzz := Aside0.mk hz
            have htl : Aside0 ((q.take st).length = st) := ⟨by rw [List.length_take]; omega⟩
            have hstl' := Aside0.mk hstl
            have hu3' := Aside0.mk hu3
            clear hqt hq3 hstl hu3
            go_upto_region 10 with fail
            obtain ⟨A4, c4, e4⟩ := Kd.R_slice hD3.out
            subst e4
            have hne4 : Aside0 (∀ k, g ≤ k → some k ≠ (Value.slice A4 D.length c4).ownBlock) := ⟨fun k hk e => by have := hlt4.out k e.symm; omega⟩
            have hszw : w.heap.size ≤ W2.heap.size := hB3.out.size
            have hb0 : 0 ≤ (st : Int) := by omega
            go_region_held3 (fun w' => w'.cell? ⟨g, 0, none⟩ = some (.int .i64 qn) ∧ w'.cell? ⟨g, 1, none⟩ = some (.slice A2 q.length c2))
              (first | (with_reducible exact hk7.out) | (exact ⟨keepx t0 (by repeat (first | (with_reducible exact Below.refl _ _) | (with_reducible exact hB6.out) | (with_reducible refine below_drew ?_) | (with_reducible refine below_alloc ?_ _))), keepx t1 (by repeat (first | (with_reducible exact Below.refl _ _) | (with_reducible exact hB6.out) | (with_reducible refine below_drew ?_) | (with_reducible refine below_alloc ?_ _)))⟩))
              (first
                | (refine Kd.R_append_rows_step (Kd.int .u8) (w0 := W2) 0 (by rfl) (.tmp 51) (.tmp 55) 30 5 (.int .u8 0) 1 (by rfl) Try.underlying30 info5' rfl (by decide) (by decide) _ [] (q.take st) A2 st c2 (fun k => W2.heap.size ≤ k) (fun _ => False) (by rfl) (by rfl) (R_mtk (Kd.int .u8) (by repeat (first | (with_reducible exact blk_new_at (by simp)) | (with_reducible refine blk_alloc ?_ _) | (with_reducible refine blk_drew ?_))) (Nat.zero_le _) (by first | omega | (simp; omega))) (Q_rows (Kd.Q_below hqt'.out (by repeat (first | (with_reducible exact Below.refl _ _) | (with_reducible exact hB6.out) | (with_reducible refine below_drew ?_) | (with_reducible refine below_alloc ?_ _))))) (fun _ _ hx => hx) (fun _ hk => hk.elim) (fun k hk => by simp at hk; omega) (below0 (by repeat (first | (with_reducible exact Below.refl _ _) | (with_reducible exact hB6.out) | (with_reducible refine below_drew ?_) | (with_reducible refine below_alloc ?_ _)))) (Nat.zero_le _) (by have := hu3'.out; have := hstl'.out; simp; omega) ?_
                   intro v6 w6 hR6 _ hg6 hat6
                   rw [List.nil_append] at hR6
                   have hB6 : Aside0 (Below W2.heap.size W2 w6) := ⟨pw_below_grown (by repeat (first | (with_reducible exact Below.refl _ _) | (with_reducible exact hB6.out) | (with_reducible refine below_drew ?_) | (with_reducible refine below_alloc ?_ _))) _ (by simp <;> omega) hg6 (fun k e => by simp [Value.ownBlock] at e; omega)⟩
                   obtain ⟨A6, c6, e6⟩ := Kd.R_slice hR6
                   rw [htl.out] at e6
                   subst e6
                   have hR6' := Aside0.mk hR6
                   have hs6 : W2.heap.size ≤ w6.heap.size := hB6.out.size
                   have r0 := keepx t0 hB6.out
                   have r1 := keepx t1 hB6.out
                   have hr01 := Aside0.mk (And.intro r0 r1)
                   clear r0 r1
                   clear hg6 hat6 hR6)
                | (refine Kd.R_append_step kSeg (w0 := w6) 0 (by rfl) (.tmp 48) (.tmp 59) 69 81 (.agg #[.int .i64 0, .slice none 0 0, .int .i64 0]) 40 (by rfl) Try.underlying69 info81 rfl (by decide) (by decide) (.slice A4 D.length c4) D (qn, (q.take st, st)) [.int .i64 qn, .slice A6 st c6, .int .i64 (st : Nat)] (fun k => w.heap.size ≤ k) (fun k => W2.heap.size ≤ k) (by rfl) (by rfl) (kSeg_mk (x := (qn, (q.take st, st))) hR6'.out) (fun k hk => ⟨by omega, hne4.out k (by omega)⟩) (fun k hk => by omega) (Kd.R_below hD3.out hB6.out) (Below.refl _ _) (Nat.zero_le _) (by have := hdl.out; have := hlt'.out; omega) ?_
                   intro v7 w7 hR7 _ hg7 hat7
                   have hR7' := Aside0.mk hR7
                   have hB7 : Aside0 (Below w.heap.size w w7) := ⟨(hB3.out.trans (hB6.out.mono hszw)).grown hg7 (by omega) (fun k e => hD3.out.1 k e)⟩
                   have hk7 : Aside0 (w7.cell? ⟨g, 0, none⟩ = some (.int .i64 qn) ∧ w7.cell? ⟨g, 1, none⟩ = some (.slice A2 q.length c2)) := ⟨cell_grown hg7 hr01.out.1 (hne4.out g (Nat.le_refl _)), cell_grown hg7 hr01.out.2 (hne4.out g (Nat.le_refl _))⟩
                   clear hg7 hat7 hR7)
                | fail)
            go_wp2_with fail
            go_roundg k1
            case measure => have := hk.out; omega
            case rel => exact ⟨i + 1, D ++ [(qn, (q.take st, st))], by have := hl; have := hlt'.out; go_num, ⟨by have := hk.out; omega⟩, ⟨by have := hlt'.out; omega⟩, hR7', hcr2, ⟨by have := hdl.out; simp; omega⟩, hB7⟩
    · have hd : decide ((i : Int) < (R.L.length : Int)) = false := decide_eq_false (by omega)
      have hd' : decide (i < R.L.length) = false := decide_eq_false hlt
      have hfin : Aside0 (D = rcrashL keep 0 R.L) := ⟨by
        have h9 := hcr.out
        rw [show i = R.L.length by have := hi.out; omega, List.drop_length] at h9
        rw [← h9]
        simp [rcrashL]⟩
      obtain ⟨A4, c4, e4⟩ := Kd.R_slice hD.out
      subst e4
      have hRr := h'.out.below hB.out
      have f0 := blk_frozen hRr.blk 0
      have f2 := blk_frozen hRr.blk 2
      have f3 := blk_frozen hRr.blk 3
      obtain ⟨_, _, z2, z3⟩ := hRr.cells
      have hpr : p < wr.heap.size := blk_lt hRr.blk
      have hnew := Aside0.mk (hRr.newRow (R' := ⟨D, R.room, R.fuse, R.dead⟩) (Below.refl _ _) (Kd.R_mono hD.out (fun k hk => ⟨hok'.out k hk, by omega⟩)) rfl rfl)
      have hRr' := Aside0.mk hRr
      clear hRr hcr
      go_wp2_with fail
      first
        | go_ret
        | go_end0
      obtain ⟨h2, k2⟩ := hnew.out.1.own (R' := ⟨D, R.room, R.fuse, false⟩) rfl 3 (.bool false) rfl
      obtain ⟨h3, k3⟩ := h2.own (R' := ⟨D, R.room, -1, false⟩) rfl 2 (.int .i64 (-1)) rfl
      have e : rcrash R keep = ⟨D, R.room, -1, false⟩ := by unfold rcrash; rw [hfin.out]
      rw [e]
      exact ⟨rfl, ⟨_, h3⟩, (Fy.of_below hB.out).trans (hnew.out.2.trans (k2.trans k3))⟩
end
end Go.Proofs.Ytnplnelhodnonaa.Dsk
