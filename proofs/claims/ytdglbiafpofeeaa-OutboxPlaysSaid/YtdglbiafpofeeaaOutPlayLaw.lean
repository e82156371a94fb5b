/- OutboxPlays, walked (printed by genPlay.py). -/
import Derived.Test.YtdglbiafpofeeaaOutBoth
import Derived.Deep.RegionHeld3
import Derived.Deep.DeepCutAuto
namespace Go.Proofs.Ytdglbiafpofeeaa.Obx
open Go.RowKit Go.Proofs.YtdglbiafpofeeaaW.PrintWords Go.Proofs.YtdglbiafpofeeaaW.PrintLast Go.Proofs.YtdglbiafpofeeaaW.PrintMore Go.Proofs.Ytdglbiafpofeeaa.POutboxNil
open Frm
set_option linter.unusedVariables false
set_option linter.unusedSimpArgs false
theorem O8 {W : World} {g : Nat} {kd xto xk xi xu xa : Int} {xs : ByteArray} {xo : Bool} (h : W.heap[g]? = some (.cells #[.int .i64 kd, .int .i64 xto, .int .i64 xk, .int .i64 xi, .int .i64 xu, .string xs, .int .i64 xa, .bool xo] 54 (0, 0))) :
    W.cell? ⟨g, 0, none⟩ = some (.int .i64 kd) ∧ W.cell? ⟨g, 1, none⟩ = some (.int .i64 xto) ∧ W.cell? ⟨g, 2, none⟩ = some (.int .i64 xk) ∧ W.cell? ⟨g, 3, none⟩ = some (.int .i64 xi) ∧ W.cell? ⟨g, 4, none⟩ = some (.int .i64 xu) ∧ W.cell? ⟨g, 5, none⟩ = some (.string xs) ∧ W.cell? ⟨g, 6, none⟩ = some (.int .i64 xa) ∧ W.cell? ⟨g, 7, none⟩ = some (.bool xo) :=
  ⟨(blk_cell h 0).trans rfl, (blk_cell h 1).trans rfl, (blk_cell h 2).trans rfl, (blk_cell h 3).trans rfl, (blk_cell h 4).trans rfl, (blk_cell h 5).trans rfl, (blk_cell h 6).trans rfl, (blk_cell h 7).trans rfl⟩
theorem Nx.o8 {T : List Nat} {base : Nat} {W w1 : World} {g : Nat} {cs : Array Value} (n : Nx T base W w1) (hT : 54 ∉ T) (h : W.heap[g]? = some (.cells cs 54 (0, 0))) : w1.heap[g]? = some (.cells cs 54 (0, 0)) := n.blk h hT
theorem O17 {base : Nat} {W w1 : World} {g : Nat} {kd xto xk xi xu xa : Int} {xs : ByteArray} {xo : Bool} (h : W.heap[g]? = some (.cells #[.int .i64 kd, .int .i64 xto, .int .i64 xk, .int .i64 xi, .int .i64 xu, .string xs, .int .i64 xa, .bool xo] 54 (0, 0))) (n : Nx [74, 59, 72, 75] base W w1) :
    w1.cell? ⟨g, 1, none⟩ = some (.int .i64 xto) ∧ w1.cell? ⟨g, 2, none⟩ = some (.int .i64 xk) ∧ w1.cell? ⟨g, 3, none⟩ = some (.int .i64 xi) ∧ w1.cell? ⟨g, 4, none⟩ = some (.int .i64 xu) ∧ w1.cell? ⟨g, 5, none⟩ = some (.string xs) ∧ w1.cell? ⟨g, 6, none⟩ = some (.int .i64 xa) ∧ w1.cell? ⟨g, 7, none⟩ = some (.bool xo) := by
  obtain ⟨o0, o1, o2, o3, o4, o5, o6, o7⟩ := O8 (n.blk h (by decide))
  exact ⟨o1, o2, o3, o4, o5, o6, o7⟩
theorem O1 {base : Nat} {W w1 : World} {g : Nat} {kd xto xk xi xu xa : Int} {xs : ByteArray} {xo : Bool} (h : W.heap[g]? = some (.cells #[.int .i64 kd, .int .i64 xto, .int .i64 xk, .int .i64 xi, .int .i64 xu, .string xs, .int .i64 xa, .bool xo] 54 (0, 0))) (n : Nx [74, 59, 72, 75] base W w1) :
    w1.cell? ⟨g, 1, none⟩ = some (.int .i64 xto) := (O8 (n.blk h (by decide))).2.1
theorem keepP {W w' : World} {p : Nat} {v : Value} (h : W.cell? ⟨p, 0, none⟩ = some v) (hb : Below W.heap.size W w') : w'.cell? ⟨p, 0, none⟩ = some v := (hb.cell (World.block_lt_of_cell? W _ h)).trans h
theorem O7x {W : World} {g t : Nat} {x : Lt} (h : W.heap[g]? = some (.cells #[.int .i64 x.to, .int .i64 x.kind, .int .i64 x.inst, .int .i64 x.turn, .string x.name, .int .i64 x.att, .bool x.ok] t (0, 0))) :
    W.cell? ⟨g, 0, none⟩ = some (.int .i64 x.to) ∧ W.cell? ⟨g, 1, none⟩ = some (.int .i64 x.kind) ∧ W.cell? ⟨g, 2, none⟩ = some (.int .i64 x.inst) ∧ W.cell? ⟨g, 3, none⟩ = some (.int .i64 x.turn) ∧ W.cell? ⟨g, 4, none⟩ = some (.string x.name) ∧ W.cell? ⟨g, 5, none⟩ = some (.int .i64 x.att) ∧ W.cell? ⟨g, 6, none⟩ = some (.bool x.ok) :=
  ⟨(blk_cell h 0).trans rfl, (blk_cell h 1).trans rfl, (blk_cell h 2).trans rfl, (blk_cell h 3).trans rfl, (blk_cell h 4).trans rfl, (blk_cell h 5).trans rfl, (blk_cell h 6).trans rfl⟩
theorem New_calls (w : World) : Calls Try.prog 28 #[] w fun e w' => e = .returned (.pointer (some ⟨w.heap.size, 0, none⟩)) ∧ w' = w.alloc (.cells #[.slice none 0 0] 74) := by
  go_enter Try.func28, Try.ntmps28
  go_wp2
  go_ret
  exact ⟨rfl, rfl⟩
/-- Where the document's letters lie. -/
theorem Both.row {base po pw : Nat} {w : World} {L L' : List Lt} (h : Both base w po pw L L') : ∃ A c, w.cell? ⟨pw, 0, none⟩ = some (.slice A L'.length c) ∧ Kd.C kLt w A L'.length L' := by
  obtain ⟨ok, _, v, h2⟩ := h
  obtain ⟨A, c, rfl, _, hC⟩ := h2.form
  exact ⟨A, c, h2.cell, hC⟩
set_option maxHeartbeats 8000000 in
set_option maxRecDepth 100000 in
theorem plays_calls (A : Option Addr) (cp : Nat) (l : List S54) (zero : Bool) (w : World) (hl : l.length ≤ 140737488351232) (hwf : ∀ x ∈ l, (Lit.int .i64 x.f2.f0).wf = true) (hC : Kd.C k54 w A l.length l) (hc : l.length ≤ cp) :
    Calls Try.prog 9 #[.slice A l.length cp, .bool zero] w fun e w' => e = .returned (.bool true) ∧ Below w.heap.size w w' := by
  obtain ⟨b, hb250, hfew⟩ := Out.few_calls l (by omega)
  have hfew' := Aside0.mk hfew
  have hC' := Aside0.mk hC
  have hc' := Aside0.mk hc
  have hwf' := Aside0.mk hwf
  clear hfew hC hc hwf
  cases b with
  | false =>
    go_enter Try.func9, Try.ntmps9
    go_wp2_with fail
    refine (Out.awake_calls _).mono ?_
    rintro e w1 ⟨rfl, hb1⟩
    go_wp2_with fail
    refine (hfew'.out A cp _ (Kd.C_below hC'.out hb1) hc'.out).mono ?_
    rintro e w2 ⟨rfl, ⟨m, rfl⟩⟩
    go_wp2_with fail
    refine (Out.awake_calls _).mono ?_
    rintro e w3 ⟨rfl, hb3⟩
    go_wp2
    go_ret
    exact ⟨rfl, below_step (pw_below_drewN hb1 m) hb3⟩
  | true =>
    have h250 := hb250 rfl
    clear hb250
    go_enter Try.func9, Try.ntmps9
    go_wp2_with fail
    refine (Out.awake_calls _).mono ?_
    rintro e w1 ⟨rfl, hb1⟩
    go_wp2_with fail
    refine (hfew'.out A cp _ (Kd.C_below hC'.out hb1) hc'.out).mono ?_
    rintro e w2 ⟨rfl, ⟨m, hm2⟩⟩
    have hb2 : Below w.heap.size w w2 := by rw [hm2]; exact pw_below_drewN hb1 m
    clear hm2 hb1
    have hs2 : w.heap.size ≤ w2.heap.size := hb2.size
    have hb2' := Aside0.mk hb2
    clear hb2
    go_upto_if 25 with (first | (go_at_call 28; (with_reducible refine (New_calls _).mono ?_); rintro e w3 ⟨rfl, rfl⟩))
    refine wp_world (fun W0 hW0 => ?_)
    have hW : W0 = (w2.alloc (.cells #[.slice none 0 0] 74)).alloc (.cells #[.slice none 0 0] 72) := hW0
    have ho : Aside0 (W0.heap[w2.heap.size]? = some (.cells #[.slice none 0 0] 74 (0, 0))) := ⟨by rw [hW]; exact blk_below (w := w2.alloc (.cells #[.slice none 0 0] 74)) (blk_new _ _) (below_alloc (Below.refl _ _) _)⟩
    have hr : Aside0 (W0.heap[w2.heap.size + 1]? = some (.cells #[.slice none 0 0] 72 (0, 0))) := ⟨by rw [hW]; have h := blk_new (w2.alloc (.cells #[.slice none 0 0] 74)) (.cells #[.slice none 0 0] 72); simpa using h⟩
    have hB0 : Aside0 (Below w.heap.size w W0) := ⟨by rw [hW]; exact below_alloc (below_alloc hb2'.out _) _⟩
    have hsW0 : W0.heap.size = w2.heap.size + 2 := by rw [hW]; simp
    obtain ⟨pw, hpw⟩ : ∃ pw, w2.heap.size + 1 = pw := ⟨_, rfl⟩
    obtain ⟨po, hpo⟩ : ∃ po, w2.heap.size = po := ⟨_, rfl⟩
    have hpne : Aside0 (w.heap.size ≤ po ∧ w.heap.size ≤ pw ∧ po ≠ pw ∧ pw < W0.heap.size) := ⟨by omega⟩
    clear hW hW0 hsW0
    rw [hpw] at hr ⊢
    rw [hpo] at ho ⊢
    clear hpw hpo hb2'
    go_cut [5] (fun v5 wx => ∃ p, v5 = .pointer (some ⟨p, 0, none⟩) ∧ Aside0 (Both w.heap.size wx p pw [] []) ∧ Aside0 (Below w.heap.size w wx))
    case first =>
      cases zero with
      | false =>
        go_wp2_with fail
        go_meet
        exact ⟨_, rfl, ⟨both_new hpne.out.1 hpne.out.2.1 hpne.out.2.2.1 ho.out hr.out⟩, hB0⟩
      | true =>
        go_wp2_with fail
        go_meet
        exact ⟨_, rfl, ⟨both_new (by have := hpne.out; omega) hpne.out.2.1 (by have := hpne.out; omega) (blk_new _ _) (blk_below hr.out (below_alloc (Below.refl _ _) _))⟩, ⟨below_alloc hB0.out _⟩⟩
    case rest =>
      obtain ⟨po1, rfl, hBo0, hX0⟩ := hcut
      clear ho hr hpne hB0
      go_wp2_with fail
      go_loopg [30] (l.length + 1) (fun kq v30 w' => ∃ (i : Nat) (L : List Lt), v30 = .int .i64 (i : Int) ∧ Aside0 (kq + i = l.length + 1) ∧ Aside0 (i ≤ l.length) ∧ Aside0 (Good L) ∧ Aside0 (Both w.heap.size w' po1 pw L L) ∧ Aside0 (Below w.heap.size w w'))
      case atStart => exact ⟨0, _, rfl, ⟨by omega⟩, ⟨by omega⟩, ⟨Good.nil⟩, hBo0, hX0⟩
      case round =>
        obtain ⟨i, L, rfl, hk, hi, hI, hBo, hB⟩ := hrel
        by_cases hlt : i < l.length
        · have hd : decide ((i : Int) < (l.length : Int)) = true := decide_eq_true (by omega)
          have hd' : decide (i < l.length) = true := decide_eq_true hlt
          cases gk with
          | zero => exact absurd hk.out (by omega)
          | succ k1 =>
            have hi250 : (i : Int) ≤ 250 := by omega
            have hlt' := Aside0.mk hlt
            have p1 : 0 ≤ (i : Int) := by omega
            have q1 : (i : Int) < (l.length : Int) := by omega
            have hmem : rd_T54 l (i : Int) ∈ l := by simp [rd_T54, List.getD_eq_getElem?_getD, List.getElem?_eq_getElem hlt]
            have hwx := hwf'.out _ hmem
            obtain ⟨ad, e1, y0, y1, y2, y3, y4, y5, y6, y7⟩ := at_T54 (Kd.C_below hC'.out hB.out) (i : Int) p1 q1
            cases e1
            rw [show ((i : Int)).toNat = i from by simp] at y0 y1 y2 y3 y4 y5 y6 y7
            obtain ⟨x, hxx⟩ : ∃ x, rd_T54 l (i : Int) = x := ⟨_, rfl⟩
            rw [hxx] at y0 y1 y2 y3 y4 y5 y6 y7 hwx
            obtain ⟨kd, xto, ⟨xk, xi, xu, xs, xa, xo⟩⟩ := x
            simp only [] at y0 y1 y2 y3 y4 y5 y6 y7 hwx
            have hwx' := Aside0.mk hwx
            have hszr : w.heap.size ≤ wr.heap.size := hB.out.size
            clear hmem hxx hwx
            go_upto_region 11 with fail
            refine wp_world (fun W hW => ?_)
            have hO : W.heap[wr.heap.size]? = some (.cells #[.int .i64 kd, .int .i64 xto, .int .i64 xk, .int .i64 xi, .int .i64 xu, .string xs, .int .i64 xa, .bool xo] 54 (0, 0)) := by rw [hW]; exact blk_new _ _
            have hbW : Below wr.heap.size wr W := by rw [hW]; exact below_alloc (Below.refl _ _) _
            have hBW := Aside0.mk (hBo.out.below hbW)
            have hXW := Aside0.mk (hB.out.trans (hbW.mono hszr))
            obtain ⟨g, hg⟩ : ∃ g, wr.heap.size = g := ⟨_, rfl⟩
            rw [hg] at hO
            rw [hg]
            obtain ⟨o0, o1, o2, o3, o4, o5, o6, o7⟩ := O8 hO
            have hO' := Aside0.mk hO
            have hsW : w.heap.size ≤ W.heap.size := hXW.out.size
            clear hW hbW hg hO y0 y1 y2 y3 y4 y5 y6 y7 hBo hB hszr o1 o2 o3 o4 o5 o6 o7
            go_upto_block 2 with fail
            go_cut [9] (fun v9 wx => v9 = .bool true ∧ ∃ L', Aside0 (Good L') ∧ Aside0 (Both w.heap.size wx po1 pw L' L') ∧ Aside0 (Below w.heap.size w wx))
            case first =>
              clear o0
              by_cases k1 : kd = 1
              · subst k1
                obtain ⟨⟨L1, E⟩, hE⟩ : ∃ r, put L ⟨xto, xk, xi, xu, xs, xa, xo⟩ = r := ⟨_, rfl⟩
                have hE' := Aside0.mk hE
                have hI2 : Aside0 (Good L1) := ⟨by have h := hI.out.put ⟨xto, xk, xi, xu, xs, xa, xo⟩; rw [hE] at h; exact h⟩
                clear hE
                go_upto_region 13 with fail
                obtain ⟨o0, o1, o2, o3, o4, o5, o6, o7⟩ := O8 hO'.out
                clear o0
                have c1 := Aside0.mk (oPut (hBW.out.below (below_drew (Below.refl _ _))) hsW hI.out ⟨xto, xk, xi, xu, xs, xa, xo⟩ L1 E hE'.out)
                go_region_held3 (fun w' => w'.cell? ⟨g, 1, none⟩ = some (.int .i64 xto) ∧ w'.cell? ⟨g, 2, none⟩ = some (.int .i64 xk) ∧ w'.cell? ⟨g, 3, none⟩ = some (.int .i64 xi) ∧ w'.cell? ⟨g, 4, none⟩ = some (.int .i64 xu) ∧ w'.cell? ⟨g, 5, none⟩ = some (.string xs) ∧ w'.cell? ⟨g, 6, none⟩ = some (.int .i64 xa) ∧ w'.cell? ⟨g, 7, none⟩ = some (.bool xo))
                  (refine O17 (base := w.heap.size) (W := W) hO'.out (by repeat (first | (with_reducible exact Nx.refl _ _ _) | (with_reducible exact hn4.out) | (with_reducible exact hn5.out) | (with_reducible refine Nx.drew ?_))))
                  (first
                    | (go_at_call 25; (with_reducible refine c1.out.mono ?_); rintro e w4 ⟨rfl, hB4, hn4⟩; have hB4' := Aside0.mk hB4; have hn4 : Aside0 (Nx [74, 59, 72, 75] w.heap.size W w4) := ⟨((Nx.refl [74, 59, 72, 75] _ _).drew).trans (hn4.mono (by decide))⟩; have hs4 : w.heap.size ≤ w4.heap.size := (hXW.out.trans hn4.out.below).size; clear hB4)
                    | (go_at_call 29; (with_reducible refine (rPut hB4'.out hs4 hI.out ⟨xto, xk, xi, xu, xs, xa, xo⟩ L1 E hE'.out).mono ?_); rintro e w5 ⟨rfl, hB5, hn5⟩; have hB5' := Aside0.mk hB5; have hn5 : Aside0 (Nx [74, 59, 72, 75] w.heap.size W w5) := ⟨hn4.out.trans (hn5.mono (by decide))⟩; clear hB5)
                    | fail)
                go_wp2_with fail
                go_meet
                exact ⟨by simp, _, ⟨hI2.out⟩, hB5', ⟨hXW.out.trans hn5.out.below⟩⟩
              · have k1' : (kd == 1) = false := by simpa using k1
                clear k1
                by_cases k2 : kd = 2
                · subst k2
                  obtain ⟨⟨L1, x1, b1⟩, hE⟩ : ∃ r, answer L xk xi xu xa = r := ⟨_, rfl⟩
                  have hE' := Aside0.mk hE
                  have hI2 : Aside0 (Good L1) := ⟨by have h := hI.out.answer xk xi xu xa; rw [hE] at h; exact h⟩
                  clear hE
                  obtain ⟨o0, o1, o2, o3, o4, o5, o6, o7⟩ := O8 hO'.out
                  clear o0 o1
                  go_wp2_with fail
                  refine (oAnswer hBW.out hsW hI.out xk xi xu xs xa xo hwx'.out L1 x1 b1 hE'.out).mono ?_
                  rintro e w4 ⟨rfl, hB4, hn4⟩
                  have hB4' := Aside0.mk hB4
                  have hO4 := Aside0.mk (hn4.blk hO'.out (by decide))
                  have hX4 := Aside0.mk (hXW.out.trans hn4.below)
                  clear hB4 hn4 o2 o3 o4 o5 o6 o7
                  go_upto_region 16 with fail
                  refine wp_world (fun W5 hW5 => ?_)
                  have hT : Aside0 (W5.heap[w4.heap.size]? = some (.cells #[.int .i64 x1.to, .int .i64 x1.kind, .int .i64 x1.inst, .int .i64 x1.turn, .string x1.name, .int .i64 x1.att, .bool x1.ok] 59 (0, 0))) := ⟨by rw [hW5]; exact blk_new _ _⟩
                  have hb5 : Below w4.heap.size w4 W5 := by rw [hW5]; exact below_alloc (Below.refl _ _) _
                  have hB5' := Aside0.mk (hB4'.out.below hb5)
                  have hO5 := Aside0.mk (blk_below hO4.out hb5)
                  have hX5 := Aside0.mk (hX4.out.trans (hb5.mono hX4.out.size))
                  have hs5 : w.heap.size ≤ W5.heap.size := hX5.out.size
                  obtain ⟨g1, hg1⟩ : ∃ g1, w4.heap.size = g1 := ⟨_, rfl⟩
                  rw [hg1] at hT
                  rw [hg1]
                  clear hW5 hb5 hg1 hB4' hO4 hX4
                  obtain ⟨o0, o1, o2, o3, o4, o5, o6, o7⟩ := O8 hO5.out
                  clear o0 o1
                  go_wp2_with fail
                  refine (rAnswer hB5'.out hs5 hI.out xk xi xu xs xa xo L1 x1 b1 hE'.out).mono ?_
                  rintro e w6 ⟨rfl, hB6, hn6⟩
                  have hB6' := Aside0.mk hB6
                  have hX6 := Aside0.mk (hX5.out.trans hn6.below)
                  have hT6 := Aside0.mk (hn6.blk hT.out (by decide))
                  clear hB6 hn6 hT hO5 hB5' hX5 o2 o3 o4 o5 o6 o7
                  go_upto_region 17 with fail
                  refine wp_world (fun W7 hW7 => ?_)
                  have hb7 : Below w6.heap.size w6 W7 := by rw [hW7]; exact below_alloc (Below.refl _ _) _
                  have hU : W7.heap[w6.heap.size]? = some (.cells #[.int .i64 x1.to, .int .i64 x1.kind, .int .i64 x1.inst, .int .i64 x1.turn, .string x1.name, .int .i64 x1.att, .bool x1.ok] 75 (0, 0)) := by rw [hW7]; exact blk_new _ _
                  obtain ⟨t0, t1, t2, t3, t4, t5, t6⟩ := O7x (blk_below hT6.out hb7)
                  obtain ⟨u0, u1, u2, u3, u4, u5, u6⟩ := O7x hU
                  have hB7' := Aside0.mk (hB6'.out.below hb7)
                  have hX7 := Aside0.mk (hX6.out.trans (hb7.mono hX6.out.size))
                  obtain ⟨g2, hg2⟩ : ∃ g2, w6.heap.size = g2 := ⟨_, rfl⟩
                  rw [hg2] at u0 u1 u2 u3 u4 u5 u6
                  rw [hg2]
                  obtain ⟨xt1, xk1, xi1, xu1, xs1, xa1, xo1⟩ := x1
                  simp only [] at t0 t1 t2 t3 t4 t5 t6 u0 u1 u2 u3 u4 u5 u6
                  clear hW7 hb7 hU hg2 hB6' hX6 hT6
                  go_wp2_with fail
                  go_meet
                  exact ⟨by simp, _, hI2, hB7', hX7⟩
                · have k2' : (kd == 2) = false := by simpa using k2
                  clear k2
                  by_cases k3 : kd = 3
                  · subst k3
                    obtain ⟨⟨L1, E⟩, hE⟩ : ∃ r, forget L xto = r := ⟨_, rfl⟩
                    have hE' := Aside0.mk hE
                    have hI2 : Aside0 (Good L1) := ⟨by have h := hI.out.forget xto; rw [hE] at h; exact h⟩
                    clear hE
                    go_upto_region 19 with fail
                    obtain ⟨o0, o1, o2, o3, o4, o5, o6, o7⟩ := O8 hO'.out
                    clear o0 o2 o3 o4 o5 o6 o7
                    have c1 := Aside0.mk (oForget (hBW.out.below (below_drew (Below.refl _ _))) hsW hI.out xto L1 E hE'.out)
                    go_region_held3 (fun w' => w'.cell? ⟨g, 1, none⟩ = some (.int .i64 xto))
                      (refine O1 (base := w.heap.size) (W := W) hO'.out (by repeat (first | (with_reducible exact Nx.refl _ _ _) | (with_reducible exact hn4.out) | (with_reducible exact hn5.out) | (with_reducible refine Nx.drew ?_))))
                      (first
                        | (go_at_call 26; (with_reducible refine c1.out.mono ?_); rintro e w4 ⟨rfl, hB4, hn4⟩; have hB4' := Aside0.mk hB4; have hn4 : Aside0 (Nx [74, 59, 72, 75] w.heap.size W w4) := ⟨((Nx.refl [74, 59, 72, 75] _ _).drew).trans (hn4.mono (by decide))⟩; have hs4 : w.heap.size ≤ w4.heap.size := (hXW.out.trans hn4.out.below).size; clear hB4)
                        | (go_at_call 31; (with_reducible refine (rForget hB4'.out hs4 hI.out xto L1 E hE'.out).mono ?_); rintro e w5 ⟨rfl, hB5, hn5⟩; have hB5' := Aside0.mk hB5; have hn5 : Aside0 (Nx [74, 59, 72, 75] w.heap.size W w5) := ⟨hn4.out.trans (hn5.mono (by decide))⟩; clear hB5)
                        | fail)
                    go_wp2_with fail
                    go_meet
                    exact ⟨by simp, _, ⟨hI2.out⟩, hB5', ⟨hXW.out.trans hn5.out.below⟩⟩
                  · have k3' : (kd == 3) = false := by simpa using k3
                    clear k3
                    go_wp2_with fail
                    go_meet
                    exact ⟨rfl, _, hI, hBW, hXW⟩
            case rest =>
              obtain ⟨rfl, L2, hI2, hB2, hX2⟩ := hcut
              clear o0
              have hs2 : w.heap.size ≤ wc.heap.size := hX2.out.size
              obtain ⟨A2, cc2, hP2, hC2⟩ := hB2.out.row
              have hP2' := Aside0.mk hP2
              have hC2' := Aside0.mk hC2
              have hlen2 : Aside0 (L2.length ≤ 1000) := ⟨by have := hI2.out.len; omega⟩
              have c1 := Aside0.mk (oAll (hB2.out.below (below_drew (Below.refl _ _))) hs2 hI2.out)
              clear hC2 hP2
              go_upto_region 20 with fail
              have p0 := hP2'.out
              go_region_held3 (fun w' => w'.cell? ⟨pw, 0, none⟩ = some (.slice A2 L2.length cc2))
                (refine keepP (W := wc) hP2'.out (by repeat (first | (with_reducible exact Below.refl _ _) | (with_reducible exact hX4.out) | (with_reducible exact hX5.out) | (with_reducible exact hX6.out) | (with_reducible refine below_drew ?_))))
                (first
                  | (go_at_call 27; (with_reducible refine c1.out.mono ?_); rintro e w4 ⟨A4, c4, rfl, hC4, hb4⟩; have hC4' := Aside0.mk hC4; have hX4 : Aside0 (Below wc.heap.size wc w4) := ⟨(below_drew (Below.refl _ _)).trans hb4⟩; clear hC4 hb4)
                  | (go_at_call 33; (with_reducible refine (aLetters hI2.out A4 c4 hC4'.out).mono ?_); rintro e w5 ⟨A5, c5, rfl, hC5, hb5⟩; have hC5' := Aside0.mk hC5; have hX5 : Aside0 (Below wc.heap.size wc w5) := ⟨hX4.out.trans (hb5.mono hX4.out.size)⟩; clear hC5 hb5)
                  | (go_at_call 32; (with_reducible refine (same_calls L2 hlen2.out A5 A2 c5 cc2 _ hC5'.out (Kd.C_below hC2'.out hX5.out)).mono ?_); rintro e w6 ⟨rfl, hb6⟩; have hX6 : Aside0 (Below wc.heap.size wc w6) := ⟨hX5.out.trans (hb6.mono hX5.out.size)⟩; clear hb6)
                  | fail)
              go_wp2
              go_roundg k1
              case measure => have := hk.out; omega
              case rel => exact ⟨i + 1, L2, by go_num, ⟨by have := hk.out; omega⟩, ⟨by have := hlt'.out; omega⟩, hI2, ⟨hB2.out.below hX6.out⟩, ⟨hX2.out.trans (hX6.out.mono hs2)⟩⟩
        · have hd : decide ((i : Int) < (l.length : Int)) = false := decide_eq_false (by omega)
          have hd' : decide (i < l.length) = false := decide_eq_false hlt
          go_wp2
          go_ret
          exact ⟨rfl, hB.out⟩
end Go.Proofs.Ytdglbiafpofeeaa.Obx
