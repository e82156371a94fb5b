/- The disk's functions, walked: Crash. -/
import Derived.Test.YtnplnelhodnonaaDkCrash
import Derived.Deep.QuietTactic
import Derived.BigQuiet
import Derived.StillTailTactics
namespace Go.Proofs.Ytnplnelhodnonaa.Dsk
open Go.RowKit Go.Proofs.YtnplnelhodnonaaW.PrintWords Go.Proofs.YtnplnelhodnonaaW.PrintLast Go.Proofs.YtnplnelhodnonaaW.PrintMore
open Amap Frm
set_option linter.unusedVariables false
set_option linter.unusedSimpArgs false
theorem Fz.C3 {ok ok' : Nat → Prop} {w w1 : World} {base : Nat} {v : Value} {xs : List Int} (h : Fz ok w w1) (hR : Kd.R (Kd.int .i64) 3 w base ok' v xs) : Kd.R (Kd.int .i64) 3 w1 base ok' v xs := R_fr hR h.fr (by simp [Kd.int, Kd.scalar])
theorem put_same {α : Type} {L : List (Int × α)} {n : Int} {v : α} (h : mlook L n = some v) : mput L n v = L := by
  induction L with
  | nil => cases h
  | cons p m ih =>
    unfold mlook at h
    unfold mput
    split
    · rename_i e
      rw [if_pos e] at h
      cases h
      rw [← e]
    · rename_i e
      rw [if_neg e] at h
      rw [ih h]
theorem look_put_same {L : Gss} {n : Int} {x0 : Gs} (h : mlook L n = some x0) (y : Gs) : mlook (mput L n y) n = some y := by
  induction L with
  | nil => cases h
  | cons p m ih =>
    unfold mlook at h
    unfold mput
    split
    · simp [mlook]
    · rename_i e
      rw [if_neg e] at h
      simp only [mlook, if_neg e]
      exact ih h
theorem fin_drop {L : List Int} {i : Nat} (h : i < L.length) : L.drop i = L[i] :: L.drop (i + 1) := List.drop_eq_getElem_cons h
set_option maxHeartbeats 8000000 in
set_option maxRecDepth 100000 in
theorem Crash_calls (S : DSt) (M : Gss) (b : Nat) (keep : List Int) (A : Option Addr) (cp : Nat) (ok : Nat → Prop) (p : Nat) (w : World) (hok : ∀ k, w.heap.size ≤ k → ok k) (h : DAt ok w p S M b) (hl : S.L.length ≤ 100000) (hu : used S.L ≤ 50000000) (hgd : ∀ q ∈ S.L, q.2.2 ≤ q.2.1.length) (hkl : keep.length ≤ 100000) (hkeep : ∀ w1, Fz ok w w1 → Kd.C (Kd.int .i64) w1 A keep.length keep) (hck : keep.length ≤ cp) :
    Calls Try.prog 19 #[.pointer (some ⟨p, 0, none⟩), .slice A keep.length cp] w fun e w' => e = .returned (.tuple #[]) ∧ IsD ok w' p (dcrash S keep) ∧ Fz ok w w' := by
  have hsg := Aside0.mk (Segs_calls S M b ok p w h hl)
  have hN : (nums S.L).length ≤ 100000 := by rw [len_nums]; exact hl
  have hnd := Aside0.mk (nd_nums h.ndL)
  have hpres : Aside0 (∀ n ∈ nums S.L, ∃ u, mlook S.L n = some u ∧ u.2 ≤ u.1.length ∧ u.1.length ≤ 50000000 ∧ domI n) := ⟨fun n hn => by
    obtain ⟨v, hv⟩ := mem_nums.1 hn
    have hlk := mem_look h.ndL hv
    refine ⟨v, hlk, hgd _ hv, Nat.le_trans (used_mem hv) hu, ?_⟩
    obtain ⟨x, hx, _⟩ := h.look' hlk
    exact h.dom _ (look_mem' hx)⟩
  obtain ⟨ns, hns⟩ : ∃ ns, nums S.L = ns := ⟨_, rfl⟩
  have hns' := Aside0.mk hns
  rw [hns] at hsg hN hnd hpres
  have h' := Aside0.mk h
  have hkeep' := Aside0.mk hkeep
  have hok' := Aside0.mk hok
  clear h hkeep hok hns hl hu hgd
  go_enter Try.func19, Try.ntmps19
  go_wp2_with (first
    | (go_at_call 16; (with_reducible refine hsg.out.mono ?_); rintro e w1 ⟨A2, c2, rfl, hc2, hR1, hB1⟩; have hR1' := Aside0.mk hR1; have hB1' := Aside0.mk hB1; clear hR1 hB1)
    | fail)
  have h1 := Aside0.mk (h'.out.below hB1'.out)
  have k1 := Aside0.mk (Fz.of_below hB1'.out ok)
  clear hB1'
  go_loopg [13] (ns.length + 1) (fun kq v13 w' => ∃ (i : Nat) (D : Sgs) (Mi : Gss), v13 = .int .i64 (i : Int) ∧ Aside0 (kq + i = ns.length + 1) ∧ Aside0 (i ≤ ns.length) ∧ Aside0 (DAt ok w' p (S.withL D) Mi b) ∧ Aside0 (crashL keep (ns.drop i) i D = crashL keep ns 0 S.L) ∧ Aside0 (∀ n ∈ ns.drop i, mlook D n = mlook S.L n) ∧ Aside0 (Fz ok w w') ∧ Aside0 (Kd.R (Kd.int .i64) 3 w' w.heap.size (fun k => w.heap.size ≤ k) (.slice A2 ns.length c2) ns))
  case atStart => exact ⟨0, S.L, M, rfl, ⟨by omega⟩, ⟨by omega⟩, h1, ⟨rfl⟩, ⟨fun n _ => rfl⟩, k1, hR1'⟩
  case round =>
    obtain ⟨i, D, Mi, rfl, hk, hi, hD, hcr, hlk, hF, hRi⟩ := hrel
    clear h1 k1 hR1'
    by_cases hlt : i < ns.length
    · have hd : decide ((i : Int) < (ns.length : Int)) = true := decide_eq_true (by omega)
      have hd' : decide (i < ns.length) = true := decide_eq_true hlt
      cases gk with
      | zero => exact absurd hk.out (by omega)
      | succ gk1 =>
        obtain ⟨n, hn⟩ : ∃ n, ns[i] = n := ⟨_, rfl⟩
        have hdrop := fin_drop hlt
        rw [hn] at hdrop
        obtain ⟨u, hu1, hu2, hu3, hu4⟩ := hpres.out n (by rw [← hn]; exact List.getElem_mem hlt)
        have hDn : mlook D n = some u := by rw [hlk.out n (by rw [hdrop]; exact List.mem_cons_self ..)]; exact hu1
        obtain ⟨x, hx, hxu⟩ := hD.out.look' (n := n) (u := u) hDn
        obtain ⟨ad, hA2, hc0⟩ := Kd.at_int (Kd.R_reads' hRi.out).2.2 (i : Int) (by omega) (by omega)
        have hrd : rd ns (i : Int) = n := by unfold rd; simp [List.getElem?_eq_getElem hlt, hn]
        subst hA2
        rw [hrd, show ((i : Int)).toNat = i from by simp] at hc0
        have hl0 := hD.out.lookS hu4 hx
        obtain ⟨d0, d1, d2, d3, d4⟩ := hD.out.cells
        obtain ⟨s0, s1⟩ := (hD.out.seg hx).cells
        obtain ⟨Ab, cb, hv, hcb, _⟩ := (hD.out.seg hx).form
        have hdrop' := Aside0.mk hdrop
        have hDn' := Aside0.mk hDn
        have hx' := Aside0.mk hx
        have hu4' := Aside0.mk hu4
        obtain ⟨g, vb, q, sy⟩ := x
        simp only [] at hl0 s0 s1 hv hcb hxu
        subst hxu
        simp only [] at hu2 hu3
        subst hv
        have hlt' := Aside0.mk hlt
        have hsub : IntKind.i64.wrap ((q.length : Int) - (sy : Int)) = ((q.length - sy : Nat) : Int) := by simp [IntKind.wrap, IntKind.signed, IntKind.bits]; omega
        have hsub' : (q.length : Int) - (sy : Int) = ((q.length - sy : Nat) : Int) := by omega
        clear hdrop hDn hx hn hrd d1 d2 d3 d4 hu4 hu1 hlt hc2
        obtain ⟨st, hst⟩ : ∃ st, stay keep i (q, sy) = st := ⟨_, rfl⟩
        have hst' := Aside0.mk hst
        have hstl : st ≤ q.length ∧ sy ≤ st := by rw [← hst]; exact stay_le keep i (q, sy) hu2
        have hC2 := Aside0.mk (hkeep'.out wr hF.out)
        clear hst
        have p1 : 0 ≤ (i : Int) := by omega
        have q1 : (i : Int) < (ns.length : Int) := by have := hlt'.out; omega
        go_upto_region 5 with fail
        go_quiet (fail)
        go_upto_if 36 with fail
        refine wp_world (fun W hW => ?_)
        have hD2 : Aside0 (DAt ok W p (S.withL D) Mi b) := ⟨by rw [hW]; exact hD.out.below (pw_below_drewN (Below.refl _ _) _)⟩
        have hF2 : Aside0 (Fz ok w W) := ⟨by rw [hW]; exact hF.out.drewN _⟩
        have hR2 : Aside0 (Kd.R (Kd.int .i64) 3 W w.heap.size (fun k => w.heap.size ≤ k) (.slice (some ad) ns.length c2) ns) := ⟨by rw [hW]; exact Kd.R_drewN hRi.out _⟩
        have hCk : Aside0 (Kd.C (Kd.int .i64) W A keep.length keep) := ⟨hkeep'.out W hF2.out⟩
        clear hW hD hF hRi hC2
        obtain ⟨s0, s1⟩ := (hD2.out.seg hx'.out).cells
        simp only [] at s0 s1
        have f1 := blk_frozen (hD2.out.seg hx'.out).blk 1
        simp only [] at f1
        have hset := Aside0.mk (hD2.out.setSync (S' := S.withL (mput D n (q, st))) hx'.out st rfl rfl)
        go_cut [6] (fun v6 wx => v6 = .pointer (some ⟨g, 0, none⟩) ∧ Aside0 (DAt ok wx p (S.withL (mput D n (q, st))) (mput Mi n (g, .slice Ab q.length cb, (q, st))) b) ∧ Aside0 (Fz ok w wx) ∧ Aside0 (Kd.R (Kd.int .i64) 3 wx w.heap.size (fun k => w.heap.size ≤ k) (.slice (some ad) ns.length c2) ns))
        case first =>
          by_cases hk0 : keep = []
          · have e1 : st = sy := by rw [← hst'.out]; unfold stay; rw [if_pos hk0]
            have e2 : keep.length = 0 := by rw [hk0]; rfl
            have hD3 : Aside0 (DAt ok W p (S.withL (mput D n (q, st))) (mput Mi n (g, .slice Ab q.length cb, (q, st))) b) := ⟨by rw [e1, put_same hDn'.out, put_same hx'.out]; exact hD2.out⟩
            have hk1 : ¬ ((keep.length : Int) > 0) := by omega
            clear e1 hk0 e2
            go_wp2_with fail
            go_meet
            exact ⟨rfl, hD3, hF2, hR2⟩
          · have hkp : 0 < keep.length := by
              rcases Nat.eq_zero_or_pos keep.length with h0 | h0
              · exact absurd (List.eq_nil_of_length_eq_zero h0) hk0
              · exact h0
            have hmod : i % keep.length < keep.length := Nat.mod_lt _ hkp
            obtain ⟨ak, hAk, hck0⟩ := Kd.at_int hCk.out ((i % keep.length : Nat) : Int) (by omega) (by omega)
            subst hAk
            rw [Int.toNat_natCast] at hck0
            obtain ⟨kv, hkv⟩ : ∃ kv, rd keep ((i % keep.length : Nat) : Int) = kv := ⟨_, rfl⟩
            rw [hkv] at hck0
            have hstv : Aside0 (st = sy + (min (max kv 0) ((q.length : Int) - sy)).toNat) := ⟨by
              rw [← hst'.out, ← hkv]
              unfold stay rd
              rw [if_neg hk0, Int.toNat_natCast]⟩
            have hk1 : (keep.length : Int) > 0 := by omega
            have hrem : Int.tmod (i : Int) (keep.length : Int) = ((i % keep.length : Nat) : Int) := (Int.ofNat_tmod i keep.length).symm
            obtain ⟨mi, hmi⟩ : ∃ mi, i % keep.length = mi := ⟨_, rfl⟩
            rw [hmi] at hck0 hrem hmod
            have m0 : 0 ≤ (mi : Int) := by omega
            have m1 : (mi : Int) < (keep.length : Int) := by omega
            have mw : IntKind.i64.wrap (mi : Int) = (mi : Int) := by simp [IntKind.wrap, IntKind.signed, IntKind.bits]; omega
            have kz : ¬ (keep.length = 0) := by omega
            clear hk0 hmi hkv hsub hsub'
            have hstl' := Aside0.mk hstl
            have hu3' := Aside0.mk hu3
            have hu2' := Aside0.mk hu2
            clear hstl hu3 hu2
            have e1 : (st : Int) = (sy : Int) + min (max kv 0) ((q.length - sy : Nat) : Int) := by rw [hstv.out]; have := hu2'.out; omega
            have hw : IntKind.i64.wrap ((sy : Int) + min (max kv 0) ((q.length - sy : Nat) : Int)) = (st : Int) := by have := hu3'.out; have := hstl'.out; rw [← e1]; simp [IntKind.wrap, IntKind.signed, IntKind.bits]; omega
            clear e1
            go_upto_region 7 with fail
            go_still_tail 15, (by kernel_rfl)
            go_wp2_with fail
            go_meet
            exact ⟨rfl, ⟨hset.out.1.below (below_drew (Below.refl _ _))⟩, ⟨(hF2.out.trans hset.out.2).drew⟩, ⟨Kd.R_drew (hset.out.2.C3 hR2.out)⟩⟩
        case rest =>
          obtain ⟨rfl, hD3, hF3, hR3⟩ := hcut
          clear hD2 hF2 hR2 hCk hset s0 s1 f1
          have hx3 : mlook (mput Mi n (g, Value.slice Ab q.length cb, (q, st))) n = some (g, .slice Ab q.length cb, (q, st)) := look_put_same hx'.out _
          obtain ⟨s0, s1⟩ := (hD3.out.seg hx3).cells
          simp only [] at s0 s1
          have f0 := blk_frozen (hD3.out.seg hx3).blk 0
          simp only [] at f0
          have hcutD := Aside0.mk (hD3.out.cutRow (S' := S.withL (mput D n (q.take st, st))) (k := st) hx3 rfl hstl.1 (show mput D n (q.take st, st) = mput (mput D n (q, st)) n (q.take st, st) from (put_put _ _ _ _).symm) rfl)
          have b1 : (st : Int) ≤ (cb : Int) := by omega
          have b0 : 0 ≤ (st : Int) := by omega
          have hx3' := Aside0.mk hx3
          clear hx3
          go_upto_region 8 with fail
          go_still_tail 10, (by kernel_rfl)
          go_upto_region 9 with fail
          refine wp_world (fun W5 hW5 => ?_)
          obtain ⟨M5, hM5⟩ : ∃ M5, mput (mput Mi n (g, Value.slice Ab q.length cb, (q, st))) n (g, Value.slice Ab st cb, (q.take st, st)) = M5 := ⟨_, rfl⟩
          have hD5 : Aside0 (DAt ok W5 p (S.withL (mput D n (q.take st, st))) M5 b) := ⟨by rw [hW5, ← hM5]; exact hcutD.out.1.below (below_drew (Below.refl _ _))⟩
          have hF5 : Aside0 (Fz ok w W5) := ⟨by rw [hW5]; exact (hF3.out.trans hcutD.out.2).drew⟩
          have hR5 : Aside0 (Kd.R (Kd.int .i64) 3 W5 w.heap.size (fun k => w.heap.size ≤ k) (.slice (some ad) ns.length c2) ns) := ⟨by rw [hW5]; exact Kd.R_drew (hcutD.out.2.C3 hR3.out)⟩
          have hx5 : Aside0 (mlook M5 n = some (g, .slice Ab st cb, (q.take st, st))) := ⟨by rw [← hM5]; exact look_put_same hx3'.out _⟩
          have hnx : Aside0 (∀ m ∈ ns.drop (i + 1), m ≠ n ∧ mlook D m = mlook S.L m) := ⟨fun m hm => by
            refine ⟨fun e => ?_, hlk.out m (by rw [hdrop'.out]; exact List.mem_cons_of_mem _ hm)⟩
            have h9 : (ns.drop i).Nodup := hnd.out.sublist (List.drop_sublist _ _)
            rw [hdrop'.out, List.nodup_cons] at h9
            exact h9.1 (e ▸ hm)⟩
          have hcr2 : Aside0 (crashL keep (ns.drop (i + 1)) (i + 1) (crash1 keep i n D) = crashL keep ns 0 S.L) := ⟨by
            have h9 := hcr.out
            rw [hdrop'.out] at h9
            exact h9⟩
          have hc1 : Aside0 (crash1 keep i n D = if st = 0 then mdel D n else mput D n (q.take st, st)) := ⟨by
            unfold crash1 Dsk.cut
            rw [sg_some hDn'.out, hst'.out]⟩
          clear hW5 hM5 hcutD hD3 hF3 hR3 s0 s1 f0
          obtain ⟨s0, s1⟩ := (hD5.out.seg hx5.out).cells
          obtain ⟨d0, d1, d2, d3, d4⟩ := hD5.out.cells
          simp only [] at s0 s1
          by_cases hz : st = 0
          · subst hz
            obtain ⟨w6, hrun, hm6, hg6⟩ := hD5.out.map.delete encI Try.underlying77 hu4'.out 0
            unfold ek at hrun
            have hD6 : Aside0 (DAt ok w6 p (S.withL (crash1 keep i n D)) (mdel M5 n) b) := ⟨hD5.out.del (n := n) (by
              rw [hc1.out, if_pos rfl]
              exact (del_put D n (q.take 0, 0) (by rw [hDn'.out]; simp)).symm) (hD5.out.mapblk hg6) hm6 (fun q hq => (hD5.out.segs q hq).map hD5.out.map hg6)⟩
            have hF6 : Aside0 (Fz ok w w6) := ⟨hF5.out.map hD5.out.map hD5.out.bk hg6⟩
            have hR6 : Aside0 (Kd.R (Kd.int .i64) 3 w6 w.heap.size (fun k => w.heap.size ≤ k) (.slice (some ad) ns.length c2) ns) := ⟨((Fz.refl ok W5).map hD5.out.map hD5.out.bk hg6).C3 hR5.out⟩
            clear hm6 hg6 d1 d2 d3 d4
            go_wp2_with fail
            go_roundg gk1
            case measure => have := hk.out; omega
            case rel => exact ⟨i + 1, _, _, by go_num, ⟨by have := hk.out; omega⟩, ⟨by have := hlt'.out; omega⟩, hD6, hcr2, ⟨fun m hm => by rw [look_crash1 m (hnx.out m hm).1]; exact (hnx.out m hm).2⟩, hF6, hR6⟩
          · have hz' : ((st : Int) == 0) = false := by simp; exact hz
            have hD6 : Aside0 (DAt ok W5 p (S.withL (crash1 keep i n D)) M5 b) := ⟨by rw [hc1.out, if_neg hz]; exact hD5.out⟩
            go_wp2_with fail
            go_roundg gk1
            case measure => have := hk.out; omega
            case rel => exact ⟨i + 1, _, _, by go_num, ⟨by have := hk.out; omega⟩, ⟨by have := hlt'.out; omega⟩, hD6, hcr2, ⟨fun m hm => by rw [look_crash1 m (hnx.out m hm).1]; exact (hnx.out m hm).2⟩, hF5, hR5⟩
    · have hd : decide ((i : Int) < (ns.length : Int)) = false := decide_eq_false (by omega)
      have hd' : decide (i < ns.length) = false := decide_eq_false hlt
      have hie : i = ns.length := by have := hi.out; omega
      have hfin : D = crashL keep ns 0 S.L := by
        have h9 := hcr.out
        rw [hie, List.drop_length] at h9
        exact h9
      obtain ⟨d0, d1, d2, d3, d4⟩ := hD.out.cells
      have f3 := blk_frozen hD.out.blk 3
      have f4 := blk_frozen hD.out.blk 4
      have hfin' := Aside0.mk hfin
      clear hfin hie d0 d1 d2
      go_wp2_with fail
      first
        | go_ret
        | go_end0
      obtain ⟨h2, k2⟩ := hD.out.own (S' := ⟨D, S.room, S.left, false, S.down⟩) rfl 3 (.bool false) rfl
      obtain ⟨h3, k3⟩ := h2.own (S' := ⟨D, S.room, S.left, false, false⟩) rfl 4 (.bool false) rfl
      have e : dcrash S keep = ⟨D, S.room, S.left, false, false⟩ := by unfold dcrash; rw [hns'.out, hfin'.out]
      rw [e]
      exact ⟨rfl, ⟨_, _, h3⟩, hF.out.trans (k2.trans k3)⟩
end Go.Proofs.Ytnplnelhodnonaa.Dsk
