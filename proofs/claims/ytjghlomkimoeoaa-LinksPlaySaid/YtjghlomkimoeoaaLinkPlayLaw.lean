/- LinksPlay, walked. -/
import Derived.Test.YtjghlomkimoeoaaLinkPlays
namespace Go.Proofs.Ytjghlomkimoeoaa.Lnk
open Go.RowKit Go.Proofs.YtjghlomkimoeoaaW.PrintWords Go.Proofs.YtjghlomkimoeoaaW.PrintLast Go.Proofs.YtjghlomkimoeoaaW.PrintMore Go.Proofs.Ytjghlomkimoeoaa.PLinksPlay
open Amap Stp
set_option linter.unusedVariables false
set_option linter.unusedSimpArgs false
theorem O5 {W : World} {g : Nat} {kd a b c : Int} {v : Value} (h : W.heap[g]? = some (.cells #[.int .i64 kd, .int .i64 a, .int .i64 b, .int .i64 c, v] 60 (0, 0))) :
    W.cell? ⟨g, 0, none⟩ = some (.int .i64 kd) ∧ W.cell? ⟨g, 1, none⟩ = some (.int .i64 a) ∧ W.cell? ⟨g, 2, none⟩ = some (.int .i64 b) ∧ W.cell? ⟨g, 3, none⟩ = some (.int .i64 c) ∧ W.cell? ⟨g, 4, none⟩ = some v :=
  ⟨(blk_cell h 0).trans rfl, (blk_cell h 1).trans rfl, (blk_cell h 2).trans rfl, (blk_cell h 3).trans rfl, (blk_cell h 4).trans rfl⟩
theorem Nx.o5 {base : Nat} {W w1 : World} {g : Nat} {cs : Array Value} (n : Nx base W w1) (h : W.heap[g]? = some (.cells cs 60 (0, 0))) : w1.heap[g]? = some (.cells cs 60 (0, 0)) := n.fr.same g _ h (by simp [Still])
theorem Nx.drew {base : Nat} {W w1 : World} (n : Nx base W w1) : Nx base W w1.drew := ⟨below_drew n.below, n.fr.drew⟩
theorem O124 {base : Nat} {W w1 : World} {g : Nat} {kd a b c : Int} {v : Value} (h : W.heap[g]? = some (.cells #[.int .i64 kd, .int .i64 a, .int .i64 b, .int .i64 c, v] 60 (0, 0))) (n : Nx base W w1) :
    w1.cell? ⟨g, 1, none⟩ = some (.int .i64 a) ∧ w1.cell? ⟨g, 2, none⟩ = some (.int .i64 b) ∧ w1.cell? ⟨g, 4, none⟩ = some v := by
  obtain ⟨_, o1, o2, _, o4⟩ := O5 (n.o5 h)
  exact ⟨o1, o2, o4⟩
theorem O123 {base : Nat} {W w1 : World} {g : Nat} {kd a b c : Int} {v : Value} (h : W.heap[g]? = some (.cells #[.int .i64 kd, .int .i64 a, .int .i64 b, .int .i64 c, v] 60 (0, 0))) (n : Nx base W w1) :
    w1.cell? ⟨g, 1, none⟩ = some (.int .i64 a) ∧ w1.cell? ⟨g, 2, none⟩ = some (.int .i64 b) ∧ w1.cell? ⟨g, 3, none⟩ = some (.int .i64 c) := by
  obtain ⟨_, o1, o2, o3, _⟩ := O5 (n.o5 h)
  exact ⟨o1, o2, o3⟩
theorem O12 {base : Nat} {W w1 : World} {g : Nat} {kd a b c : Int} {v : Value} (h : W.heap[g]? = some (.cells #[.int .i64 kd, .int .i64 a, .int .i64 b, .int .i64 c, v] 60 (0, 0))) (n : Nx base W w1) :
    w1.cell? ⟨g, 1, none⟩ = some (.int .i64 a) ∧ w1.cell? ⟨g, 2, none⟩ = some (.int .i64 b) := by
  obtain ⟨_, o1, o2, _, _⟩ := O5 (n.o5 h)
  exact ⟨o1, o2⟩
set_option maxHeartbeats 8000000 in
set_option maxRecDepth 100000 in
theorem plays_calls (parties : Int) (A : Option Addr) (cp : Nat) (l : List S60) (w : World) (hl : l.length ≤ 140737488351232) (hlen : ∀ x ∈ l, x.f4.length ≤ 140737488351232) (hwf : ∀ x ∈ l, domK (x.f1, x.f2)) (hC : Kd.C k60 w A l.length l) (hc : l.length ≤ cp) :
    Calls Try.prog 7 #[.int .i64 parties, .slice A l.length cp] w fun e w' => e = .returned (.bool true) ∧ Below w.heap.size w w' := by
  obtain ⟨b, hb300, hfew⟩ := few_calls l (by omega) hlen
  have hfew' := Aside0.mk hfew
  have hC' := Aside0.mk hC
  have hc' := Aside0.mk hc
  have hwf' := Aside0.mk hwf
  clear hfew hC hc hwf hlen
  cases b with
  | false =>
    go_enter Try.func7, Try.ntmps7
    go_wp2_with fail
    refine (awake_calls _).mono ?_
    rintro e w1 ⟨rfl, hb1⟩
    go_wp2_with fail
    refine (hfew'.out A cp _ (Kd.C_below hC'.out hb1) hc'.out).mono ?_
    rintro e w2 ⟨rfl, ⟨m, rfl⟩⟩
    go_wp2_with fail
    refine (awake_calls _).mono ?_
    rintro e w3 ⟨rfl, hb3⟩
    go_wp2
    go_ret
    exact ⟨rfl, below_step (pw_below_drewN hb1 m) hb3⟩
  | true =>
    obtain ⟨h300, hsmall⟩ := hb300 rfl
    have hsmall' := Aside0.mk hsmall
    clear hb300 hsmall
    go_enter Try.func7, Try.ntmps7
    go_wp2_with fail
    refine (awake_calls _).mono ?_
    rintro e w1 ⟨rfl, hb1⟩
    go_wp2_with fail
    refine (hfew'.out A cp _ (Kd.C_below hC'.out hb1) hc'.out).mono ?_
    rintro e w2 ⟨rfl, ⟨m, hm2⟩⟩
    have hb2 : Below w.heap.size w w2 := by rw [hm2]; exact pw_below_drewN hb1 m
    clear hm2 hb1
    have hs2 : w.heap.size ≤ w2.heap.size := hb2.size
    have hb2' := Aside0.mk hb2
    go_wp2_with fail
    refine (New_calls parties w2 (fun k => w2.heap.size ≤ k) (fun k hk => hk)).mono ?_
    rintro e w3 ⟨rfl, hL3, hb3⟩
    have hs3 : w2.heap.size ≤ w3.heap.size := hb3.size
    have hL3' := Aside0.mk hL3
    have hb3' := Aside0.mk hb3
    clear hL3 hb3 hb2
    go_wp2_with fail
    refine (RNew_calls parties w3 (fun k => w3.heap.size ≤ k) (fun k hk => hk)).mono ?_
    rintro e w4 ⟨rfl, hR4, hb4⟩
    obtain ⟨pl, hpl⟩ : ∃ pl, w2.heap.size + 1 = pl := ⟨_, rfl⟩
    obtain ⟨pr, hpr⟩ : ∃ pr, w3.heap.size = pr := ⟨_, rfl⟩
    have hL3 := hL3'.out
    have hB0 : Aside0 (Both w.heap.size w4 (w2.heap.size + 1) w3.heap.size ⟨clamp parties, []⟩ ⟨clamp parties, []⟩) := ⟨both_new hs2 hL3 hR4 hb4 hs3⟩
    have hX0 : Aside0 (Below w.heap.size w w4) := ⟨(hb2'.out.trans (hb3'.out.mono hs2)).trans (hb4.mono (by omega))⟩
    rw [hpl, hpr] at hB0
    rw [hpl, hpr]
    clear hL3 hL3' hb3' hR4 hb4 hpl hpr hs3 hs2 hb2'
    go_wp2_with fail
    go_loopg [32] (l.length + 1) (fun kq v32 w' => ∃ (i : Nat) (S : LSt) (R : RSt), v32 = .int .i64 (i : Int) ∧ Aside0 (kq + i = l.length + 1) ∧ Aside0 (i ≤ l.length) ∧ Aside0 (Inv (2 * i) S R) ∧ Aside0 (Both w.heap.size w' pl pr S R) ∧ Aside0 (Below w.heap.size w w'))
    case atStart => exact ⟨0, _, _, rfl, ⟨by omega⟩, ⟨by omega⟩, ⟨Inv.new _⟩, hB0, hX0⟩
    case round =>
      obtain ⟨i, S, R, rfl, hk, hi, hI, hBo, hB⟩ := hrel
      by_cases hlt : i < l.length
      · have hd : decide ((i : Int) < (l.length : Int)) = true := decide_eq_true (by omega)
        have hd' : decide (i < l.length) = true := decide_eq_true hlt
        cases gk with
        | zero => exact absurd hk.out (by omega)
        | succ k1 =>
          have hi300 : (i : Int) ≤ 300 := by omega
          have hlt' := Aside0.mk hlt
          have p1 : 0 ≤ (i : Int) := by omega
          have q1 : (i : Int) < (l.length : Int) := by omega
          have hmem : rd_T60 l (i : Int) ∈ l := by simp [rd_T60, List.getD_eq_getElem?_getD, List.getElem?_eq_getElem hlt]
          have hxl := hsmall'.out _ hmem
          have hdom := hwf'.out _ hmem
          obtain ⟨ad, A4, c4, e1, y0, y1, y2, y3, y4, hc4, _⟩ := at_T60 (Kd.C_below hC'.out hB.out) (i : Int) p1 q1
          obtain ⟨ad', A4', c4', e1', _, _, _, _, y4', _, hC4⟩ := at_T60 hC'.out (i : Int) p1 q1
          cases e1
          cases e1'
          rw [show ((i : Int)).toNat = i from by simp] at y0 y1 y2 y3 y4 y4'
          have hyy := (hB.out.cell (World.block_lt_of_cell? w _ y4')).trans y4'
          rw [y4] at hyy
          cases hyy
          obtain ⟨x, hxx⟩ : ∃ x, rd_T60 l (i : Int) = x := ⟨_, rfl⟩
          rw [hxx] at y0 y1 y2 y3 y4 hc4 hC4 hxl hdom
          obtain ⟨kd, xa, xb, xc, x⟩ := x
          simp only [] at y0 y1 y2 y3 y4 hc4 hC4 hxl hdom
          have hC4' := Aside0.mk hC4
          have hdom' := Aside0.mk hdom
          have hszr : w.heap.size ≤ wr.heap.size := hB.out.size
          clear hmem hxx y4' hC4 hdom
          go_upto_region 9 with fail
          refine wp_world (fun W hW => ?_)
          have hO : W.heap[wr.heap.size]? = some (.cells #[.int .i64 kd, .int .i64 xa, .int .i64 xb, .int .i64 xc, .slice A4 x.length c4] 60 (0, 0)) := by rw [hW]; exact blk_new _ _
          have hbW : Below wr.heap.size wr W := by rw [hW]; exact below_alloc (Below.refl _ _) _
          have hBW := Aside0.mk (hBo.out.below hbW)
          have hXW := Aside0.mk (hB.out.trans (hbW.mono hszr))
          obtain ⟨g, hg⟩ : ∃ g, wr.heap.size = g := ⟨_, rfl⟩
          rw [hg] at hO
          rw [hg]
          obtain ⟨o0, o1, o2, o3, o4⟩ := O5 hO
          have hO' := Aside0.mk hO
          have hsW : w.heap.size ≤ W.heap.size := hXW.out.size
          clear hW hbW hg hO y0 y1 y2 y3 y4 hBo hB hszr o1 o2 o3 o4
          go_upto_block 2 with fail
          go_cut [9] (fun v9 wx => v9 = .bool true ∧ ∃ S' R', Aside0 (Inv (2 * i + 1) S' R') ∧ Aside0 (Both w.heap.size wx pl pr S' R') ∧ Aside0 (wx.heap[g]? = some (.cells #[.int .i64 kd, .int .i64 xa, .int .i64 xb, .int .i64 xc, .slice A4 x.length c4] 60 (0, 0))) ∧ Aside0 (Below w.heap.size w wx))
          case first =>
            clear o0
            by_cases k1 : kd = 1
            · subst k1
              obtain ⟨E, hE⟩ : ∃ E, (send S (xa, xb) x).2 = E := ⟨_, rfl⟩
              have hE' := Aside0.mk hE
              have hI2 := Aside0.mk (hI.out.send (xa, xb) (b := x) (by omega))
              clear hE
              go_upto_region 11 with fail
              obtain ⟨o0, o1, o2, o3, o4⟩ := O5 hO'.out
              clear o0 o3
              have c1 := Aside0.mk (bSend (hBW.out.below (below_drew (Below.refl _ _))) hsW hI.out xa xb hdom'.out A4 c4 x (Kd.C_below hC4'.out (below_drew hXW.out)) hc4 (by omega) E hE'.out)
              go_region_held3 (fun w' => w'.cell? ⟨g, 1, none⟩ = some (.int .i64 xa) ∧ w'.cell? ⟨g, 2, none⟩ = some (.int .i64 xb) ∧ w'.cell? ⟨g, 4, none⟩ = some (.slice A4 x.length c4))
                (refine O124 (base := w.heap.size) (W := W) hO'.out (by repeat (first | (with_reducible exact Nx.refl _ _) | (with_reducible exact hn4.out) | (with_reducible exact hn5.out) | (with_reducible refine Nx.drew ?_))))
                (first
                  | (go_at_call 19; (with_reducible refine c1.out.mono ?_); rintro e w4 ⟨rfl, hB4, hn4⟩; have hB4' := Aside0.mk hB4; have hn4 : Aside0 (Nx w.heap.size W w4) := ⟨(Nx.refl _ _).drew.trans hn4⟩; have hs4 : w.heap.size ≤ w4.heap.size := (hXW.out.trans hn4.out.below).size; clear hB4)
                  | (go_at_call 33; (with_reducible refine (bRSend hB4'.out hs4 hI.out (by omega) xa xb A4 c4 x (fun w1 h1 => Kd.C_below hC4'.out ((hXW.out.trans hn4.out.below).trans h1.below)) (by omega) E hE'.out).mono ?_); rintro e w5 ⟨rfl, hB5, hn5⟩; have hB5' := Aside0.mk hB5; have hn5 : Aside0 (Nx w.heap.size W w5) := ⟨hn4.out.trans hn5⟩; clear hB5)
                  | fail)
              go_wp2_with fail
              go_meet
              exact ⟨by simp, _, _, ⟨hI2.out.2⟩, hB5', ⟨hn5.out.o5 hO'.out⟩, ⟨hXW.out.trans hn5.out.below⟩⟩
            · have k1' : (kd == 1) = false := by simpa using k1
              clear k1
              by_cases k2 : kd = 2
              · subst k2
                obtain ⟨y, hy⟩ : ∃ y, (peek S (xa, xb) xc).getD [] = y := ⟨_, rfl⟩
                obtain ⟨bb, hbb⟩ : ∃ bb, (peek S (xa, xb) xc).isSome = bb := ⟨_, rfl⟩
                have hy' := Aside0.mk hy
                have hbb' := Aside0.mk hbb
                have hI2 := Aside0.mk (hI.out.take (xa, xb) xc)
                clear hy hbb
                obtain ⟨o0, o1, o2, o3, o4⟩ := O5 hO'.out
                clear o4
                go_wp2_with fail
                refine (bTake hBW.out hsW hI.out xa xb xc hdom'.out y bb hy'.out hbb'.out).mono ?_
                rintro e w4 ⟨A2, c2, rfl, hR4, hB4, hn4⟩
                have hs4 : w.heap.size ≤ w4.heap.size := (hXW.out.trans hn4.below).size
                have hR4' := Aside0.mk hR4
                have hB4' := Aside0.mk hB4
                have hn4' := Aside0.mk hn4
                clear hR4 hB4 o0 o1 o2 o3
                obtain ⟨o0, o1, o2, o3, o4⟩ := O5 (hn4.o5 hO'.out)
                clear o4 hn4
                go_wp2_with fail
                refine (bRTake hB4'.out hs4 hI.out (by omega) xa xb xc y bb hy'.out hbb'.out).mono ?_
                rintro e w5 ⟨A3, c3, rfl, hR5, hB5, hn5⟩
                have s1 := Kd.C_string (c := c2) Try.underlying25 Try.underlying5 Try.underlying9 (C_of_R (hn5.keepR hR4'.out)).1
                have s2 := Kd.C_string (c := c3) Try.underlying25 Try.underlying5 Try.underlying9 (C_of_R hR5).1
                have hB5' := Aside0.mk hB5
                have hn5' := Aside0.mk (hn4'.out.trans hn5)
                clear hR5 hB5 hn5 o0 o1 o2 o3
                go_wp2_with fail
                go_meet
                exact ⟨by simp, _, _, ⟨hI2.out⟩, hB5', ⟨hn5'.out.o5 hO'.out⟩, ⟨hXW.out.trans hn5'.out.below⟩⟩
              · have k2' : (kd == 2) = false := by simpa using k2
                clear k2
                by_cases k3 : kd = 3
                · subst k3
                  obtain ⟨y, hy⟩ : ∃ y, (peek S (xa, xb) xc).getD [] = y := ⟨_, rfl⟩
                  obtain ⟨bb, hbb⟩ : ∃ bb, (peek S (xa, xb) xc).isSome = bb := ⟨_, rfl⟩
                  have hy' := Aside0.mk hy
                  have hbb' := Aside0.mk hbb
                  have hI2 := Aside0.mk (hI.out.peek (xa, xb) xc)
                  clear hy hbb
                  obtain ⟨o0, o1, o2, o3, o4⟩ := O5 hO'.out
                  clear o4
                  go_wp2_with fail
                  refine (bPeek hBW.out hsW hI.out xa xb xc hdom'.out y bb hy'.out hbb'.out).mono ?_
                  rintro e w4 ⟨A2, c2, rfl, hR4, hB4, hn4⟩
                  have hs4 : w.heap.size ≤ w4.heap.size := (hXW.out.trans hn4.below).size
                  have hR4' := Aside0.mk hR4
                  have hB4' := Aside0.mk hB4
                  have hn4' := Aside0.mk hn4
                  clear hR4 hB4 o0 o1 o2 o3
                  obtain ⟨o0, o1, o2, o3, o4⟩ := O5 (hn4.o5 hO'.out)
                  clear o4 hn4
                  go_wp2_with fail
                  refine (bRPeek hB4'.out hs4 hI.out (by omega) xa xb xc y bb hy'.out hbb'.out).mono ?_
                  rintro e w5 ⟨A3, c3, rfl, hR5, hB5, hn5⟩
                  have s1 := Kd.C_string (c := c2) Try.underlying25 Try.underlying5 Try.underlying9 (C_of_R (hn5.keepR hR4'.out)).1
                  have s2 := Kd.C_string (c := c3) Try.underlying25 Try.underlying5 Try.underlying9 (C_of_R hR5).1
                  have hB5' := Aside0.mk hB5
                  have hn5' := Aside0.mk (hn4'.out.trans hn5)
                  clear hR5 hB5 hn5 o0 o1 o2 o3
                  go_wp2_with fail
                  go_meet
                  exact ⟨by simp, _, _, ⟨hI2.out.2⟩, hB5', ⟨hn5'.out.o5 hO'.out⟩, ⟨hXW.out.trans hn5'.out.below⟩⟩
                · have k3' : (kd == 3) = false := by simpa using k3
                  clear k3
                  by_cases k4 : kd = 4
                  · subst k4
                    obtain ⟨E, hE⟩ : ∃ E, (double S (xa, xb) xc).2 = E := ⟨_, rfl⟩
                    have hE' := Aside0.mk hE
                    have hI2 := Aside0.mk (hI.out.double (xa, xb) xc)
                    clear hE
                    go_upto_region 21 with fail
                    obtain ⟨o0, o1, o2, o3, o4⟩ := O5 hO'.out
                    clear o0 o4
                    have c1 := Aside0.mk (bDouble (hBW.out.below (below_drew (Below.refl _ _))) hsW hI.out xa xb xc hdom'.out E hE'.out)
                    go_region_held3 (fun w' => w'.cell? ⟨g, 1, none⟩ = some (.int .i64 xa) ∧ w'.cell? ⟨g, 2, none⟩ = some (.int .i64 xb) ∧ w'.cell? ⟨g, 3, none⟩ = some (.int .i64 xc))
                      (refine O123 (base := w.heap.size) (W := W) hO'.out (by repeat (first | (with_reducible exact Nx.refl _ _) | (with_reducible exact hn4.out) | (with_reducible exact hn5.out) | (with_reducible refine Nx.drew ?_))))
                      (first
                        | (go_at_call 30; (with_reducible refine c1.out.mono ?_); rintro e w4 ⟨rfl, hB4, hn4⟩; have hB4' := Aside0.mk hB4; have hn4 : Aside0 (Nx w.heap.size W w4) := ⟨(Nx.refl _ _).drew.trans hn4⟩; have hs4 : w.heap.size ≤ w4.heap.size := (hXW.out.trans hn4.out.below).size; clear hB4)
                        | (go_at_call 36; (with_reducible refine (bRDouble hB4'.out hs4 hI.out (by omega) xa xb xc E hE'.out).mono ?_); rintro e w5 ⟨rfl, hB5, hn5⟩; have hB5' := Aside0.mk hB5; have hn5 : Aside0 (Nx w.heap.size W w5) := ⟨hn4.out.trans hn5⟩; clear hB5)
                        | fail)
                    go_wp2_with fail
                    go_meet
                    exact ⟨by simp, _, _, ⟨hI2.out.2⟩, hB5', ⟨hn5.out.o5 hO'.out⟩, ⟨hXW.out.trans hn5.out.below⟩⟩
                  · have k4' : (kd == 4) = false := by simpa using k4
                    clear k4
                    by_cases k5 : kd = 5
                    · subst k5
                      obtain ⟨E, hE⟩ : ∃ E, (turn S (xa, xb)).2 = E := ⟨_, rfl⟩
                      have hE' := Aside0.mk hE
                      have hI2 := Aside0.mk (hI.out.turn (xa, xb))
                      clear hE
                      go_upto_region 23 with fail
                      obtain ⟨o0, o1, o2, o3, o4⟩ := O5 hO'.out
                      clear o0 o3 o4
                      have c1 := Aside0.mk (bTurn (hBW.out.below (below_drew (Below.refl _ _))) hsW hI.out xa xb hdom'.out E hE'.out)
                      go_region_held3 (fun w' => w'.cell? ⟨g, 1, none⟩ = some (.int .i64 xa) ∧ w'.cell? ⟨g, 2, none⟩ = some (.int .i64 xb))
                        (refine O12 (base := w.heap.size) (W := W) hO'.out (by repeat (first | (with_reducible exact Nx.refl _ _) | (with_reducible exact hn4.out) | (with_reducible exact hn5.out) | (with_reducible refine Nx.drew ?_))))
                        (first
                          | (go_at_call 37; (with_reducible refine c1.out.mono ?_); rintro e w4 ⟨rfl, hB4, hn4⟩; have hB4' := Aside0.mk hB4; have hn4 : Aside0 (Nx w.heap.size W w4) := ⟨(Nx.refl _ _).drew.trans hn4⟩; have hs4 : w.heap.size ≤ w4.heap.size := (hXW.out.trans hn4.out.below).size; clear hB4)
                          | (go_at_call 38; (with_reducible refine (bRTurn hB4'.out hs4 hI.out (by omega) xa xb E hE'.out).mono ?_); rintro e w5 ⟨rfl, hB5, hn5⟩; have hB5' := Aside0.mk hB5; have hn5 : Aside0 (Nx w.heap.size W w5) := ⟨hn4.out.trans hn5⟩; clear hB5)
                          | fail)
                      go_wp2_with fail
                      go_meet
                      exact ⟨by simp, _, _, ⟨hI2.out.2⟩, hB5', ⟨hn5.out.o5 hO'.out⟩, ⟨hXW.out.trans hn5.out.below⟩⟩
                    · have k5' : (kd == 5) = false := by simpa using k5
                      clear k5
                      go_wp2_with fail
                      go_meet
                      exact ⟨rfl, _, _, ⟨hI.out.up (by omega)⟩, hBW, hO', hXW⟩
          case rest =>
            obtain ⟨rfl, S2, R2, hI2, hB2, hO2, hX2⟩ := hcut
            obtain ⟨T, hT⟩ : ∃ T, tot S2.L = T := ⟨_, rfl⟩
            obtain ⟨N, hN⟩ : ∃ N, (line S2.L (xa, xb)).length = N := ⟨_, rfl⟩
            have hs2 : w.heap.size ≤ wc.heap.size := hX2.out.size
            have hB2d := hB2.out.below (below_drew (Below.refl _ _))
            have c1 := Aside0.mk (bTotal hB2d hs2 T hT)
            have c2 := Aside0.mk (bRTotal hB2d hs2 hI2.out (by omega) T hT)
            have c3 := Aside0.mk (bCount hB2d hs2 xa xb hdom'.out N hN)
            have c4 := Aside0.mk (bRCount hB2d hs2 hI2.out (by omega) xa xb N hN)
            clear hT hN hB2d
            go_upto_region 24 with fail
            obtain ⟨o0', o1, o2, o3, o4⟩ := O5 hO2.out
            clear o0' o3 o4
            go_region_held3 (fun w' => w'.cell? ⟨g, 1, none⟩ = some (.int .i64 xa) ∧ w'.cell? ⟨g, 2, none⟩ = some (.int .i64 xb))
              (refine O12 (base := w.heap.size) (W := wc) hO2.out (by repeat (first | (with_reducible exact Nx.refl _ _) | (with_reducible exact hn5.out) | (with_reducible refine Nx.drew ?_))))
              (first
                | (go_at_call 23; (with_reducible refine c1.out.mono ?_); rintro e w4 ⟨rfl, rfl⟩)
                | (go_at_call 39; (with_reducible refine c2.out.mono ?_); rintro e w4 ⟨rfl, rfl⟩)
                | (go_at_call 22; (with_reducible refine c3.out.mono ?_); rintro e w4 ⟨rfl, rfl⟩)
                | (go_at_call 40; (with_reducible refine c4.out.mono ?_); rintro e w5 ⟨rfl, hB5, hn5⟩; have hB5' := Aside0.mk hB5; have hn5 : Aside0 (Nx w.heap.size wc w5) := ⟨(Nx.refl _ _).drew.trans hn5⟩; clear hB5)
                | fail)
            go_wp2
            go_roundg k1
            case measure => have := hk.out; omega
            case rel => exact ⟨i + 1, S2, _, by go_num, ⟨by have := hk.out; omega⟩, ⟨by have := hlt'.out; omega⟩, ⟨(hI2.out.count (xa, xb)).2.up (by omega)⟩, hB5', ⟨hX2.out.trans hn5.out.below⟩⟩
      · have hd : decide ((i : Int) < (l.length : Int)) = false := decide_eq_false (by omega)
        have hd' : decide (i < l.length) = false := decide_eq_false hlt
        go_wp2
        go_ret
        exact ⟨rfl, hB.out⟩
end Go.Proofs.Ytjghlomkimoeoaa.Lnk
