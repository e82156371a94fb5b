/- TimersPlay, walked. -/
import Derived.Test.YtdfghndcengkaaaTmLaw
namespace Go.Proofs.Ytdfghndcengkaaa.Tmr
open Go.RowKit Go.Proofs.YtdfghndcengkaaaW.PrintWords Go.Proofs.YtdfghndcengkaaaW.PrintLast Go.Proofs.YtdfghndcengkaaaW.PrintMore Go.Proofs.Ytdfghndcengkaaa.PTimersPlay
open Amap Frm
set_option linter.unusedVariables false
set_option linter.unusedSimpArgs false
theorem O3 {w : World} {b : Nat} {k d : Int} {s : ByteArray} (h : w.heap[b]? = some (.cells #[.int .i64 k, .string s, .int .i64 d] 35 (0, 0))) :
    w.cell? ⟨b, 0, none⟩ = some (.int .i64 k) ∧ w.cell? ⟨b, 1, none⟩ = some (.string s) ∧ w.cell? ⟨b, 2, none⟩ = some (.int .i64 d) :=
  ⟨(blk_cell h 0).trans rfl, (blk_cell h 1).trans rfl, (blk_cell h 2).trans rfl⟩
theorem O_1 {base : Nat} {w w1 : World} {b : Nat} {k d : Int} {s : ByteArray} (h : w.heap[b]? = some (.cells #[.int .i64 k, .string s, .int .i64 d] 35 (0, 0))) (n : Nx base w w1) : w1.cell? ⟨b, 1, none⟩ = some (.string s) := (O3 (n.blk h (by simp))).2.1
theorem O_2 {base : Nat} {w w1 : World} {b : Nat} {k d : Int} {s : ByteArray} (h : w.heap[b]? = some (.cells #[.int .i64 k, .string s, .int .i64 d] 35 (0, 0))) (n : Nx base w w1) : w1.cell? ⟨b, 2, none⟩ = some (.int .i64 d) := (O3 (n.blk h (by simp))).2.2
set_option maxHeartbeats 8000000 in
set_option maxRecDepth 100000 in
theorem plays_calls (A : Option Addr) (cp : Nat) (l : List S35) (zero : Bool) (w : World) (hl : l.length ≤ 140737488351232) (hwf : ∀ x ∈ l, domI x.f2) (hC : Kd.C k35 w A l.length l) (hc : l.length ≤ cp) :
    Calls Try.prog 3 #[.slice A l.length cp, .bool zero] w fun e w' => e = .returned (.bool true) ∧ Below w.heap.size w w' := by
  obtain ⟨b, hb200, hfew⟩ := few_calls l (by omega)
  have hfew' := Aside0.mk hfew
  have hC' := Aside0.mk hC
  have hc' := Aside0.mk hc
  have hwf' := Aside0.mk hwf
  clear hfew hC hc hwf
  cases b with
  | false =>
    go_enter Try.func3, Try.ntmps3
    go_wp2_with fail
    refine (awake_calls _).mono ?_
    rintro e w1 ⟨rfl, hb1⟩
    go_wp2_with fail
    refine (hfew'.out A cp _ (Kd.C_below hC'.out hb1) hc'.out).mono ?_
    rintro e w2 ⟨rfl, ⟨m, rfl⟩⟩
    go_wp2_with fail
    refine (awake_calls _).mono ?_
    rintro e w3 ⟨rfl, hb3⟩
    go_wp2
    go_ret
    exact ⟨rfl, below_step (pw_below_drewN hb1 m) hb3⟩
  | true =>
    obtain ⟨h200, hsmall⟩ := hb200 rfl
    have hsmall' := Aside0.mk hsmall
    clear hb200 hsmall
    go_enter Try.func3, Try.ntmps3
    go_wp2_with fail
    refine (awake_calls _).mono ?_
    rintro e w1 ⟨rfl, hb1⟩
    go_wp2_with fail
    refine (hfew'.out A cp _ (Kd.C_below hC'.out hb1) hc'.out).mono ?_
    rintro e w2 ⟨rfl, ⟨m, hm2⟩⟩
    have hb2 : Below w.heap.size w w2 := by rw [hm2]; exact pw_below_drewN hb1 m
    clear hm2 hb1
    have hs2 : w.heap.size ≤ w2.heap.size := hb2.size
    have hb2' := Aside0.mk hb2
    clear hb2
    go_wp2_with fail
    refine (New_calls w2).mono ?_
    rintro e w3 ⟨rfl, rfl⟩
    go_upto_if 26 with fail
    refine wp_world (fun W hW => ?_)
    have h1 : Aside0 (W.heap[w2.heap.size]? = some (.cells #[.map none] 33 (0, 0))) := ⟨by rw [hW]; exact blk_alloc (blk_new _ _) _⟩
    have h2 : Aside0 (W.heap[w2.heap.size + 1]? = some (.cells #[.slice none 0 0] 30 (0, 0))) := ⟨by
      rw [hW]
      have h := blk_new (w2.alloc (.cells #[.map none] 33)) (.cells #[.slice none 0 0] 30)
      rw [show (w2.alloc (.cells #[.map none] 33)).heap.size = w2.heap.size + 1 from by simp] at h
      exact h⟩
    have hX0 : Aside0 (Below w.heap.size w W) := ⟨by rw [hW]; exact (hb2'.out.alloc hs2 _).alloc (by simp; omega) _⟩
    obtain ⟨pr, hpr⟩ : ∃ pr, w2.heap.size + 1 = pr := ⟨_, rfl⟩
    obtain ⟨p0, hp0⟩ : ∃ p0, w2.heap.size = p0 := ⟨_, rfl⟩
    have hb1' : w.heap.size ≤ p0 := by omega
    have hb2'' : w.heap.size ≤ pr := by omega
    rw [hpr] at h2
    rw [hp0] at h1
    rw [hpr, hp0]
    clear hW hpr hp0 hb2' hs2
    go_cut [5] (fun v5 wx => ∃ pd : Nat, v5 = .pointer (some ⟨pd, 0, none⟩) ∧ Aside0 (Both w.heap.size wx pd pr [] []) ∧ Aside0 (Below w.heap.size w wx))
    case first =>
      cases zero with
      | false =>
        go_wp2_with fail
        go_meet
        exact ⟨p0, rfl, ⟨both_new h1.out h2.out hb1' hb2''⟩, hX0⟩
      | true =>
        go_wp2_with fail
        go_meet
        exact ⟨W.heap.size, rfl, ⟨both_new (blk_new _ _) (blk_alloc h2.out _) hX0.out.size hb2''⟩, ⟨hX0.out.alloc hX0.out.size _⟩⟩
    case rest =>
      obtain ⟨pd, rfl, hB0, hXc⟩ := hcut
      clear h1 h2 hX0 hb1' hb2''
      go_wp2_with fail
      go_loopg [31] (l.length + 1) (fun kq v31 w' => ∃ (i : Nat) (T : Tms) (R : Tms), v31 = .int .i64 (i : Int) ∧ Aside0 (kq + i = l.length + 1) ∧ Aside0 (i ≤ l.length) ∧ Aside0 (Inv i T R) ∧ Aside0 (Both w.heap.size w' pd pr T R) ∧ Aside0 (Below w.heap.size w w'))
      case atStart => exact ⟨0, [], [], rfl, ⟨by omega⟩, ⟨by omega⟩, ⟨Inv.new⟩, hB0, hXc⟩
      case round =>
        obtain ⟨i, T, R, rfl, hk, hi, hI, hBo, hB⟩ := hrel
        clear hB0 hXc
        by_cases hlt : i < l.length
        · have hd : decide ((i : Int) < (l.length : Int)) = true := decide_eq_true (by omega)
          have hd' : decide (i < l.length) = true := decide_eq_true hlt
          cases gk with
          | zero => exact absurd hk.out (by omega)
          | succ k1 =>
            have hi200 : Aside0 (i + 1 ≤ 200) := ⟨by omega⟩
            have hlt' := Aside0.mk hlt
            have p1 : 0 ≤ (i : Int) := by omega
            have q1 : (i : Int) < (l.length : Int) := by omega
            have hmem : rd_T35 l (i : Int) ∈ l := by simp [rd_T35, List.getD_eq_getElem?_getD, List.getElem?_eq_getElem hlt]
            have hxl := hsmall'.out _ hmem
            have hdom := hwf'.out _ hmem
            obtain ⟨ad, e1, y0, y1, y2⟩ := at_T35 (Kd.C_below hC'.out hB.out) (i : Int) p1 q1
            cases e1
            rw [show ((i : Int)).toNat = i from by simp] at y0 y1 y2
            obtain ⟨x, hxx⟩ : ∃ x, rd_T35 l (i : Int) = x := ⟨_, rfl⟩
            rw [hxx] at y0 y1 y2 hxl hdom
            obtain ⟨kd, key, at_⟩ := x
            simp only [] at y0 y1 y2 hxl hdom
            have hkey : Aside0 (domS key) := ⟨hxl⟩
            have hdom' := Aside0.mk hdom
            have hszr : w.heap.size ≤ wr.heap.size := hB.out.size
            clear hmem hxx hdom hxl hlt
            go_upto_region 10 with fail
            refine wp_world (fun W1 hW => ?_)
            have hO : W1.heap[wr.heap.size]? = some (.cells #[.int .i64 kd, .string key, .int .i64 at_] 35 (0, 0)) := by rw [hW]; exact blk_new _ _
            have hbW : Below wr.heap.size wr W1 := by rw [hW]; exact below_alloc (Below.refl _ _) _
            have hBW := Aside0.mk (hBo.out.below hbW)
            have hXW := Aside0.mk (hB.out.trans (hbW.mono hszr))
            obtain ⟨g, hg⟩ : ∃ g, wr.heap.size = g := ⟨_, rfl⟩
            rw [hg] at hO
            rw [hg]
            obtain ⟨o0, o1, o2⟩ := O3 hO
            have hO' := Aside0.mk hO
            have hsW : w.heap.size ≤ W1.heap.size := hXW.out.size
            have hI2 := Aside0.mk (hI.out.op kd key at_)
            obtain ⟨T2, hT2⟩ : ∃ T2, doT T kd key at_ = T2 := ⟨_, rfl⟩
            obtain ⟨R2, hR2⟩ : ∃ R2, doR R kd key at_ = R2 := ⟨_, rfl⟩
            rw [hT2, hR2] at hI2
            have hT2' := Aside0.mk hT2
            have hR2' := Aside0.mk hR2
            clear hW hbW hg hO y0 y1 y2 hBo hB hszr o1 o2 hT2 hR2
            go_upto_block 2 with fail
            go_cut [] (fun wx => Aside0 (Both w.heap.size wx pd pr T2 R2) ∧ Aside0 (wx.heap[g]? = some (.cells #[.int .i64 kd, .string key, .int .i64 at_] 35 (0, 0))) ∧ Aside0 (Below w.heap.size w wx))
            case first =>
              clear o0
              by_cases k1 : kd = 1
              · subst k1
                have c1 := Aside0.mk (bSet hBW.out hsW key at_ hkey.out hdom'.out)
                obtain ⟨o0, o1, o2⟩ := O3 hO'.out
                clear o0
                go_upto_region 13 with (first
                  | (go_at_call 7; (with_reducible refine c1.out.mono ?_); rintro e w4 ⟨rfl, hB4, hn4⟩; have hB4' := Aside0.mk hB4; have hn4' := Aside0.mk hn4; have hs4 : w.heap.size ≤ w4.heap.size := Nat.le_trans hsW hn4.size; clear hB4 hn4)
                  | fail)
                have c2 := Aside0.mk (rSet hB4'.out hs4 hI.out (by have := hi200.out; omega) key at_)
                clear o1 o2
                obtain ⟨_, o1, o2⟩ := O3 (hn4'.out.blk hO'.out (by simp))
                go_wp2_with (first
                  | (go_at_call 8; (with_reducible refine c2.out.mono ?_); rintro e w5 ⟨rfl, hB5, hn5⟩; have hB5' := Aside0.mk hB5; have hn5' := Aside0.mk hn5; clear hB5 hn5)
                  | fail)
                go_meet
                have e1 : tset T key at_ = T2 := by rw [← hT2'.out]; rfl
                have e2 : rset R key at_ = R2 := by rw [← hR2'.out]; rfl
                have h5 := hB5'.out
                rw [e1, e2] at h5
                have hn := hn4'.out.trans hn5'.out
                exact ⟨⟨h5⟩, ⟨hn.blk hO'.out (by simp)⟩, ⟨hXW.out.trans hn.below⟩⟩
              · have k1' : (kd == 1) = false := by simpa using k1
                have k1a := Aside0.mk k1
                clear k1
                by_cases k2 : kd = 2
                · subst k2
                  obtain ⟨E, hE⟩ : ∃ E, there T key = E := ⟨_, rfl⟩
                  have hE' := Aside0.mk hE
                  clear hE
                  go_upto_region 15 with fail
                  obtain ⟨o0, o1, o2⟩ := O3 hO'.out
                  clear o0 o2
                  have c1 := Aside0.mk (bStop (hBW.out.below (below_drew (Below.refl _ _))) hsW key hkey.out E hE'.out)
                  go_region_held3 (fun w' => w'.cell? ⟨g, 1, none⟩ = some (.string key))
                    (refine O_1 (base := w.heap.size) (w := W1) hO'.out (by repeat (first | (with_reducible exact Nx.refl _ _) | (with_reducible exact hn4.out) | (with_reducible exact hn5.out) | (with_reducible refine Nx.drew ?_))))
                    (first
                      | (go_at_call 9; (with_reducible refine c1.out.mono ?_); rintro e w4 ⟨rfl, hB4, hn4⟩; have hB4' := Aside0.mk hB4; have hn4 : Aside0 (Nx w.heap.size W1 w4) := ⟨(Nx.refl _ _).drew.trans hn4⟩; have hs4 : w.heap.size ≤ w4.heap.size := Nat.le_trans hsW hn4.out.size; clear hB4)
                      | (go_at_call 10; (with_reducible refine (rStop hB4'.out hs4 hI.out (by have := hi200.out; omega) key E hE'.out).mono ?_); rintro e w5 ⟨rfl, hB5, hn5⟩; have hB5' := Aside0.mk hB5; have hn5 : Aside0 (Nx w.heap.size W1 w5) := ⟨hn4.out.trans hn5⟩; clear hB5)
                      | fail)
                  go_wp2_with fail
                  go_meet
                  have e1 : mdel T key = T2 := by rw [← hT2'.out]; rfl
                  have e2 : mdel R key = R2 := by rw [← hR2'.out]; rfl
                  have h5 := hB5'.out
                  rw [e1, e2] at h5
                  exact ⟨⟨h5⟩, ⟨hn5.out.blk hO'.out (by simp)⟩, ⟨hXW.out.trans hn5.out.below⟩⟩
                · have k2' : (kd == 2) = false := by simpa using k2
                  have k2a := Aside0.mk k2
                  clear k2
                  by_cases k3 : kd = 3
                  · subst k3
                    obtain ⟨G, hG⟩ : ∃ G, rgone R at_ = G := ⟨_, rfl⟩
                    have hG' := Aside0.mk hG
                    have hGl : Aside0 (G.length ≤ 1000) := ⟨by
                      rw [← hG]
                      unfold rgone
                      rw [List.length_map]
                      have := (List.takeWhile_prefix (early at_) (l := R)).length_le
                      have := hI.out.len
                      have := hi200.out
                      omega⟩
                    clear hG
                    go_upto_region 18 with fail
                    obtain ⟨o0, o1, o2⟩ := O3 hO'.out
                    clear o0 o1
                    have c1 := Aside0.mk (bTake (hBW.out.below (below_drew (Below.refl _ _))) hsW hI.out (by have := hi200.out; omega) at_ G hG'.out)
                    go_region_held3 (fun w' => w'.cell? ⟨g, 2, none⟩ = some (.int .i64 at_))
                      (refine O_2 (base := w.heap.size) (w := W1) hO'.out (by repeat (first | (with_reducible exact Nx.refl _ _) | (with_reducible exact hn4.out) | (with_reducible exact hn5.out) | (with_reducible exact hn6.out) | (with_reducible refine Nx.drew ?_))))
                      (first
                        | (go_at_call 12; (with_reducible refine c1.out.mono ?_); rintro e w4 ⟨A4, c4, rfl, hR4, hB4, hn4⟩; have hB4' := Aside0.mk hB4; have hR4' := Aside0.mk hR4; have hn4 : Aside0 (Nx w.heap.size W1 w4) := ⟨(Nx.refl _ _).drew.trans hn4⟩; have hs4 : w.heap.size ≤ w4.heap.size := Nat.le_trans hsW hn4.out.size; clear hB4 hR4)
                        | (go_at_call 13; (with_reducible refine (rTake hB4'.out hs4 hI.out (by have := hi200.out; omega) at_ G hG'.out).mono ?_); rintro e w5 ⟨A5, c5, rfl, hR5, hB5, hn5⟩; have hB5' := Aside0.mk hB5; have hR5' := Aside0.mk hR5; have hR45 := Aside0.mk (hn5.CS hR4'.out); have hn5 : Aside0 (Nx w.heap.size W1 w5) := ⟨hn4.out.trans hn5⟩; clear hB5 hR5)
                        | (go_at_call 11; (with_reducible refine (same_calls G hGl.out A4 c4 A5 c5 _ (Kd.R_reads' hR45.out).2.2 (Kd.R_reads' hR45.out).2.1 (Kd.R_reads' hR5'.out).2.2 (Kd.R_reads' hR5'.out).2.1).mono ?_); rintro e w6 ⟨rfl, hm6⟩; have hb6 : Aside0 (Below w5.heap.size w5 w6) := ⟨by obtain ⟨m6, rfl⟩ := hm6; exact pw_below_drewN (Below.refl _ _) _⟩; have hn6 : Aside0 (Nx w.heap.size W1 w6) := ⟨hn5.out.trans (Nx.of_below (Nat.le_trans hsW hn5.out.size) hb6.out)⟩; clear hm6)
                        | fail)
                    go_wp2_with fail
                    go_meet
                    have e1 : ttake T at_ = T2 := by rw [← hT2'.out]; rfl
                    have e2 : rtake R at_ = R2 := by rw [← hR2'.out]; rfl
                    have h5 := hB5'.out.below hb6.out
                    rw [e1, e2] at h5
                    exact ⟨⟨h5⟩, ⟨hn6.out.blk hO'.out (by simp)⟩, ⟨hXW.out.trans hn6.out.below⟩⟩
                  · have k3' : (kd == 3) = false := by simpa using k3
                    have k3a := Aside0.mk k3
                    clear k3
                    go_wp2_with fail
                    go_meet
                    have e1 : T = T2 := by rw [← hT2'.out]; unfold doT; rw [if_neg k1a.out, if_neg k2a.out, if_neg k3a.out]
                    have e2 : R = R2 := by rw [← hR2'.out]; unfold doR; rw [if_neg k1a.out, if_neg k2a.out, if_neg k3a.out]
                    rw [← e1, ← e2]
                    exact ⟨hBW, hO', hXW⟩
            case rest =>
              obtain ⟨hB5, hO5, hX5⟩ := hcut
              obtain ⟨o0', o1, o2⟩ := O3 hO5.out
              obtain ⟨D, hD⟩ : ∃ D, due T2 key = D := ⟨_, rfl⟩
              obtain ⟨E, hE⟩ : ∃ E, there T2 key = E := ⟨_, rfl⟩
              have hs5 : w.heap.size ≤ wc.heap.size := hX5.out.size
              have hi2 := hi200.out
              have c1 := Aside0.mk (bDue hB5.out hs5 key hkey.out D E hD hE)
              have c2 := Aside0.mk (rDue hB5.out hs5 hI2.out (by omega) key D E hD hE)
              have hDD : (D != D) = false := by simp
              have hEE : (E != E) = false := by simp
              clear hD hE o0' o2 o0 hBW hXW hsW hI hO'
              go_upto_region 22 with (first
                | (go_at_call 14; (with_reducible refine c1.out.mono ?_); rintro e w' ⟨rfl, rfl⟩)
                | (go_at_call 15; (with_reducible refine c2.out.mono ?_); rintro e w' ⟨rfl, rfl⟩)
                | fail)
              obtain ⟨Rx, hRx⟩ : ∃ Rx, R2 = Rx := ⟨_, rfl⟩
              cases Rx with
              | nil =>
                have cN := Aside0.mk (bNext0 hB5.out hs5 hI2.out hi2 hRx)
                have hRx' := Aside0.mk hRx
                have hI3 := hI2
                rw [hRx] at hB5 hI3
                clear c1 c2 hRx
                go_upto_region 23 with (first
                  | (go_at_call 16; (with_reducible refine cN.out.mono ?_); rintro e w6 ⟨rfl, hb6⟩; have hb6' := Aside0.mk hb6; clear hb6)
                  | fail)
                have hB6 := Aside0.mk (hB5.out.below hb6'.out)
                have hs6 : w.heap.size ≤ w6.heap.size := Nat.le_trans hs5 hb6'.out.size
                obtain ⟨Ar, cr, x0⟩ := hB6.out.rcell
                simp only [List.length_nil] at x0
                have hLn : Aside0 (∀ m, Calls Try.prog 17 #[.pointer (some ⟨pd, 0, none⟩)] (w6.drewN m) fun e w' => e = .returned (.int .i64 0) ∧ w' = w6.drewN m) := ⟨fun m => bLen (hB6.out.below (pw_below_drewN (Below.refl _ _) m)) hs6 hI3.out⟩
                clear hI3 cN o1
                go_quiet (first | (go_at_call 17; exact Calls.quiet_of_same (hLn.out _)))
                go_wp2_with fail
                go_roundg k1
                case measure => have := hk.out; omega
                case rel => exact ⟨i + 1, T2, [], by go_num, ⟨by have := hk.out; omega⟩, ⟨by have := hlt'.out; omega⟩, ⟨by rw [← hRx'.out]; exact hI2.out⟩, ⟨hB6.out.below (pw_below_drewN (Below.refl _ _) _)⟩, ⟨pw_below_drewN (hX5.out.trans (hb6'.out.mono hs5)) _⟩⟩
              | cons q m =>
                have cN := Aside0.mk (bNext1 hB5.out hs5 hI2.out hi2 hRx)
                have hRx' := Aside0.mk hRx
                have hI3 := hI2
                rw [hRx] at hB5 hI3
                clear c1 c2 hRx
                obtain ⟨qk, qd⟩ := q
                simp only [] at cN
                have hqq : (qd != qd) = false := by simp
                go_upto_region 23 with (first
                  | (go_at_call 16; (with_reducible refine cN.out.mono ?_); rintro e w6 ⟨rfl, hb6⟩; have hb6' := Aside0.mk hb6; clear hb6)
                  | fail)
                have hB6 := Aside0.mk (hB5.out.below hb6'.out)
                have hs6 : w.heap.size ≤ w6.heap.size := Nat.le_trans hs5 hb6'.out.size
                obtain ⟨gr, cr, x0, x1⟩ := hB6.out.rfirst
                simp only [] at x1
                have hLn : Aside0 (∀ j, Calls Try.prog 17 #[.pointer (some ⟨pd, 0, none⟩)] (w6.drewN j) fun e w' => e = .returned (.int .i64 (m.length + 1 : Nat)) ∧ w' = w6.drewN j) := ⟨fun j => bLen (hB6.out.below (pw_below_drewN (Below.refl _ _) j)) hs6 hI3.out⟩
                obtain ⟨M, hM⟩ : ∃ M, m.length + 1 = M := ⟨_, rfl⟩
                have hMM : ((M : Int) != (M : Int)) = false := by simp
                have hM0 : decide ((M : Int) > 0) = true := decide_eq_true (by omega)
                have hM1 : 0 < M := by omega
                rw [hM] at x0 hLn
                clear hI3 cN o1 hM
                go_quiet (first | (go_at_call 17; exact Calls.quiet_of_same (hLn.out _)))
                go_wp2_with fail
                go_roundg k1
                case measure => have := hk.out; omega
                case rel => exact ⟨i + 1, T2, (qk, qd) :: m, by go_num, ⟨by have := hk.out; omega⟩, ⟨by have := hlt'.out; omega⟩, ⟨by rw [← hRx'.out]; exact hI2.out⟩, ⟨hB6.out.below (pw_below_drewN (Below.refl _ _) _)⟩, ⟨pw_below_drewN (hX5.out.trans (hb6'.out.mono hs5)) _⟩⟩
        · have hd : decide ((i : Int) < (l.length : Int)) = false := decide_eq_false (by omega)
          have hd' : decide (i < l.length) = false := decide_eq_false hlt
          go_wp2
          go_ret
          exact ⟨rfl, hB.out⟩
end Go.Proofs.Ytdfghndcengkaaa.Tmr
