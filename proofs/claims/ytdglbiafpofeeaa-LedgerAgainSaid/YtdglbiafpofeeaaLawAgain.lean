/- LedgerAgain, walked. -/
import Derived.Test.YtdglbiafpofeeaaLedFew
import Derived.StillTailTactics
import Derived.Deep.RegionHeld3
import Derived.Deep.DeepCutAuto
import Derived.Deep.DeepMust
import Derived.Outline
namespace Go.Proofs.Ytdglbiafpofeeaa.Led
open Go.RowKit Go.Proofs.YtdglbiafpofeeaaW.PrintWords Go.Proofs.YtdglbiafpofeeaaW.PrintLast Go.Proofs.YtdglbiafpofeeaaW.PrintMore Go.Proofs.Ytdglbiafpofeeaa.PLedgerPlays
open Amap
set_option linter.unusedVariables false
set_option linter.unusedSimpArgs false
theorem six_zero {W : World} {g : Nat} (h : W.heap[g]? = some (.cells #[.int .i64 0, .int .i64 0, .int .i64 0, .string ⟨#[]⟩, .int .i64 0, .bool false] 28 (0, 0))) :
    W.cell? ⟨g, 0, none⟩ = some (.int .i64 0) ∧ W.cell? ⟨g, 1, none⟩ = some (.int .i64 0) ∧ W.cell? ⟨g, 2, none⟩ = some (.int .i64 0) ∧ W.cell? ⟨g, 3, none⟩ = some (.string ⟨#[]⟩) ∧ W.cell? ⟨g, 4, none⟩ = some (.int .i64 0) ∧ W.cell? ⟨g, 5, none⟩ = some (.bool false) ∧
    W.frozen? ⟨g, 0, none⟩ = false ∧ W.frozen? ⟨g, 1, none⟩ = false ∧ W.frozen? ⟨g, 2, none⟩ = false ∧ W.frozen? ⟨g, 3, none⟩ = false ∧ W.frozen? ⟨g, 4, none⟩ = false ∧ W.frozen? ⟨g, 5, none⟩ = false :=
  ⟨(blk_cell h 0).trans rfl, (blk_cell h 1).trans rfl, (blk_cell h 2).trans rfl, (blk_cell h 3).trans rfl, (blk_cell h 4).trans rfl, (blk_cell h 5).trans rfl, blk_frozen h 0, blk_frozen h 1, blk_frozen h 2, blk_frozen h 3, blk_frozen h 4, blk_frozen h 5⟩
theorem S7 {w w' : World} {g : Nat} {m : Msg} {ad : Addr} {b : Bool} (h : w'.heap[g]? = some (.cells (msgA m) 28 (0, 0))) (hb : Below w.heap.size w w') (had : ad.block < w.heap.size) (hx : w.cell? ad = some (.bool b)) :
    w'.cell? ⟨g, 0, none⟩ = some (.int .i64 m.kind) ∧ w'.cell? ⟨g, 1, none⟩ = some (.int .i64 m.inst) ∧ w'.cell? ⟨g, 2, none⟩ = some (.int .i64 m.turn) ∧ w'.cell? ⟨g, 3, none⟩ = some (.string m.name) ∧ w'.cell? ⟨g, 4, none⟩ = some (.int .i64 m.att) ∧ w'.cell? ⟨g, 5, none⟩ = some (.bool m.ok) ∧ w'.cell? ad = some (.bool b) :=
  ⟨(blk_cell h 0).trans rfl, (blk_cell h 1).trans rfl, (blk_cell h 2).trans rfl, (blk_cell h 3).trans rfl, (blk_cell h 4).trans rfl, (blk_cell h 5).trans rfl, (hb.cell had).trans hx⟩
set_option maxHeartbeats 1000000 in
set_option maxRecDepth 100000 in
theorem again_calls (A : Option Addr) (c : Nat) (l : List S32) (w : World) (hl : l.length ≤ 140737488351232) (hC : Kd.C k32 w A l.length l) (hc : l.length ≤ c) :
    Calls Try.prog 4 #[.slice A l.length c] w fun e w' => e = .returned (.bool true) ∧ Below w.heap.size w w' := by
  obtain ⟨b, hb400, hfew⟩ := few_calls l (by omega)
  have hfew' := Aside0.mk hfew
  have hC' := Aside0.mk hC
  have hc' := Aside0.mk hc
  clear hfew hC hc
  cases b with
  | false =>
    go_enter Try.func4, Try.ntmps4
    go_wp2_with fail
    refine (awake_calls _).mono ?_
    rintro e w1 ⟨rfl, hb1⟩
    go_wp2_with fail
    refine (hfew'.out A c _ (Kd.C_below hC'.out hb1) hc'.out).mono ?_
    rintro e w2 ⟨rfl, ⟨m, rfl⟩⟩
    go_wp2_with fail
    refine (awake_calls _).mono ?_
    rintro e w3 ⟨rfl, hb3⟩
    go_wp2
    go_ret
    exact ⟨rfl, below_step (pw_below_drewN hb1 m) hb3⟩
  | true =>
    have h400 := hb400 rfl
    have h400' := Aside0.mk h400
    clear hb400
    go_enter Try.func4, Try.ntmps4
    go_wp2_with fail
    refine (awake_calls _).mono ?_
    rintro e w1 ⟨rfl, hb1⟩
    go_wp2_with fail
    refine (hfew'.out A c _ (Kd.C_below hC'.out hb1) hc'.out).mono ?_
    rintro e w2 ⟨rfl, ⟨m, rfl⟩⟩
    go_wp2_with fail
    refine (New_calls _).mono ?_
    rintro e w3 ⟨rfl, rfl⟩
    have hsz := hb1.size
    have hrun0 : Aside0 (Run w.heap.size ((w1.drewN m).alloc (.cells #[.map none, .slice none 0 0] 44)) w1.heap.size st0 0) := ⟨⟨New_is w.heap.size (w1.drewN m) hb1.size, by decide, by decide⟩⟩
    have hbel0 : Aside0 (Below w.heap.size w ((w1.drewN m).alloc (.cells #[.map none, .slice none 0 0] 44))) := ⟨below_alloc (pw_below_drewN hb1 m) _⟩
    go_wp2_with fail
    go_loopg [22] (l.length + 1) (fun kq v22 w' => ∃ (i : Nat) (S : St), v22 = .int .i64 (i : Int) ∧ Aside0 (kq + i = l.length + 1) ∧ Aside0 (i ≤ l.length) ∧ Aside0 (Run w.heap.size w' w1.heap.size S (2 * i)) ∧ Aside0 (Below w.heap.size w w'))
    case atStart => exact ⟨0, st0, rfl, ⟨by omega⟩, ⟨by omega⟩, hrun0, hbel0⟩
    case round =>
      obtain ⟨i, S, rfl, hk, hi, hR, hB⟩ := hrel
      by_cases hlt : i < l.length
      · have hd : decide ((i : Int) < (l.length : Int)) = true := decide_eq_true (by omega)
        have hd' : decide (i < l.length) = true := decide_eq_true hlt
        cases gk with
        | zero => exact absurd hk.out (by omega)
        | succ k1 =>
          have hi400 : (i : Int) ≤ 400 := by omega
          have hlt' := Aside0.mk hlt
          have p1 : 0 ≤ (i : Int) := by omega
          have q1 : (i : Int) < (l.length : Int) := by omega
          obtain ⟨ad, e1, hx⟩ := at_T32 (Kd.C_below hC'.out hB.out) (i : Int) p1 q1
          obtain ⟨ad', e1', hxw⟩ := at_T32 hC'.out (i : Int) p1 q1
          rw [e1] at e1'
          obtain rfl := Option.some.inj e1'
          cases e1
          have hadw : (ad.add ((i : Int).toNat * 7)).block < w.heap.size := World.block_lt_of_cell? w _ hxw.1
          rw [show ((i : Int)).toNat = i from by simp] at hx hadw
          obtain ⟨⟨⟨xk, xi, xt, xs, xa, xo⟩, acc⟩, hxx⟩ : ∃ x, rd_T32 l (i : Int) = x := ⟨_, rfl⟩
          rw [hxx] at hx hxw
          have hx6 := hxw.2.2.2.2.2.2
          rw [show ((i : Int)).toNat = i from by simp] at hx6
          simp only [] at hx6
          clear hxw
          obtain ⟨x0, x1, x2, x3, x4, x5, x6⟩ := hx
          simp only [] at x0 x1 x2 x3 x4 x5 x6
          obtain ⟨⟨S', ⟨k', i', t', n', a', o'⟩, r⟩, htk⟩ : ∃ r, take S ⟨xk, xi, xt, xs, xa, xo⟩ acc = r := ⟨_, rfl⟩
          have htk' := Aside0.mk htk
          have htk2 : Aside0 (take S' ⟨xk, xi, xt, xs, xa, xo⟩ (!acc) = (S', ⟨k', i', t', n', a', o'⟩, r)) := ⟨by have h := take_again S ⟨xk, xi, xt, xs, xa, xo⟩ acc (!acc); rw [htk] at h; exact h⟩
          have hlen' : Aside0 (S'.L.length ≤ 200) := ⟨by have h := take_length S ⟨xk, xi, xt, xs, xa, xo⟩ acc hR.out.len; rw [htk] at h; exact h⟩
          have hE' : S'.E.length ≤ 2 * i + 1 := by have h := take_effs S ⟨xk, xi, xt, xs, xa, xo⟩ acc; have h2 := hR.out.effs; rw [htk] at h; simp only [] at h; omega
          clear hxx htk
          have hsz2 : w.heap.size ≤ wr.heap.size := hB.out.size
          go_upto_region 8 with fail
          refine wp_world (fun W hW => ?_)
          have hW5 : W.heap[wr.heap.size]? = some (.cells (msgA ⟨xk, xi, xt, xs, xa, xo⟩) 28 (0, 0)) := by rw [hW]; exact blk_new _ _
          have hWB : Below w.heap.size w W := by rw [hW]; exact below_alloc hB.out _
          have hWS : IsLed w.heap.size W w1.heap.size S := by rw [hW]; exact hR.out.is.below (below_alloc (Below.refl _ _) _)
          have hW5' := Aside0.mk hW5
          have hWB' := Aside0.mk hWB
          have hWS' := Aside0.mk hWS
          have hlt5 := blk_lt hW5
          have hsz5 := hWB.size
          clear hW hW5 hWB hWS
          go_cut [6, 7] (fun v6 v7 wx => ∃ g : Nat, v6 = .pointer (some ⟨g, 0, none⟩) ∧ v7 = .bool r ∧ Aside0 (wx.heap[g]? = some (.cells (msgA ⟨k', i', t', n', a', o'⟩) 28 (0, 0))) ∧ Aside0 (wx.heap[wr.heap.size]? = some (.cells (msgA ⟨xk, xi, xt, xs, xa, xo⟩) 28 (0, 0))) ∧ Aside0 (Below w.heap.size w wx) ∧ Aside0 (IsLed w.heap.size wx w1.heap.size S'))
          case first =>
            go_region_held3 (fun w' => w'.cell? ⟨wr.heap.size, 0, none⟩ = some (.int .i64 xk) ∧ w'.cell? ⟨wr.heap.size, 1, none⟩ = some (.int .i64 xi) ∧ w'.cell? ⟨wr.heap.size, 2, none⟩ = some (.int .i64 xt) ∧ w'.cell? ⟨wr.heap.size, 3, none⟩ = some (.string xs) ∧ w'.cell? ⟨wr.heap.size, 4, none⟩ = some (.int .i64 xa) ∧ w'.cell? ⟨wr.heap.size, 5, none⟩ = some (.bool xo) ∧ w'.cell? ⟨(ad.add (i * 7)).block, (ad.add (i * 7)).off + 6, none⟩ = some (.bool acc))
              (refine S7 (w := w) (g := wr.heap.size) (m := ⟨xk, xi, xt, xs, xa, xo⟩) (by repeat (first | (with_reducible exact hW5'.out) | (with_reducible refine blk_drew ?_) | (with_reducible refine blk_alloc ?_ _) | (with_reducible refine blk_far ?_ (by first | omega | (simp; omega)) _) | (with_reducible refine hf4.same _ _ ?_ (by simp [Still])))) (by repeat (first | (with_reducible exact hWB'.out) | (with_reducible refine below_drew ?_) | (with_reducible refine below_alloc ?_ _) | (with_reducible refine below_set ?_ (by first | omega | (simp; omega))) | (with_reducible refine Below.trans ?_ hf4.below))) hadw hx6)
              (first
                | (go_at_call 16; (refine (Take_at S xk xi xt xs xa xo acc _ _ _ _ _ _ _ _ htk'.out w.heap.size _ _ (by have := hWB'.out.size; simp; omega) (hWS'.out.below (by repeat (first | (with_reducible exact Below.refl _ _) | (with_reducible refine below_alloc ?_ _) | (with_reducible refine below_drew ?_)))) hR.out.len (by have := hR.out.effs; omega)).mono ?_); rintro e w4 ⟨rfl, hS4, hf4⟩; have hs4 := hf4.below.size; (try simp only [World.heap_drew] at hs4); have hl4 : W.heap.size ≤ w4.heap.size := (by have := hf4.below.size; simp at this; omega); try (have hzb := hf4.same W.heap.size _ (blk_new _ _) (by simp [Still]); obtain ⟨z0, z1, z2, z3, z4, z5, y0, y1, y2, y3, y4, y5⟩ := six_zero hzb; have hzb' := Aside0.mk hzb; clear hzb)))
            all_goals
              go_wp2_with fail
              go_meet
            · exact ⟨w4.heap.size, rfl, rfl, ⟨blk_new _ _⟩, ⟨blk_alloc (hf4.same _ _ hW5'.out (by simp [Still])) _⟩, ⟨below_alloc (hWB'.out.drew.trans hf4.below) _⟩, ⟨hS4.below (below_alloc (Below.refl _ _) _)⟩⟩
            · have h6 := six (m0 := msg0) (base := w.heap.size) hzb'.out hsz5 ⟨k', i', t', n', a', o'⟩ _ rfl
              exact ⟨W.heap.size, rfl, rfl, ⟨h6.1⟩, ⟨by
                have h5 := hf4.same _ _ (blk_alloc hW5'.out _) (by simp [Still])
                repeat (first | (with_reducible exact h5) | (with_reducible refine blk_far ?_ (by first | omega | (simp; omega)) _))⟩, ⟨((below_alloc hWB'.out.drew _).trans hf4.below).trans h6.2.below⟩, ⟨hS4.fr h6.2 (by simp) (by simp) (by simp)⟩⟩
          case rest =>
            obtain ⟨g, rfl, rfl, hg, hW5, hWB, hWS⟩ := hcut
            go_upto_region 10 with (first | (go_at_call 17; (with_reducible refine (Effects_calls S' w.heap.size _ _ (by exact hWS.out) (by omega)).mono ?_); rintro e w5 ⟨v, rfl, hR5, hb5⟩; obtain ⟨A5, c5, rfl, hc5, hC5⟩ := Kd.R_reads hR5))
            have hV5 : w5.heap[wr.heap.size]? = some (.cells (msgA ⟨xk, xi, xt, xs, xa, xo⟩) 28 (0, 0)) := blk_below hW5.out hb5
            have hVg : w5.heap[g]? = some (.cells (msgA ⟨k', i', t', n', a', o'⟩) 28 (0, 0)) := blk_below hg.out hb5
            have hVB : Below w.heap.size w w5 := hWB.out.trans (hb5.mono hWB.out.size)
            have hVS : IsLed w.heap.size w5 w1.heap.size S' := hWS.out.below hb5
            have hV5' := Aside0.mk hV5
            have hVg' := Aside0.mk hVg
            have hVB' := Aside0.mk hVB
            have hVS' := Aside0.mk hVS
            have hltV := blk_lt hV5
            have hltg := blk_lt hVg
            have hszV := hVB.size
            clear hV5 hVg hVB hVS hW5 hWB hWS hg hW5' hWB' hWS'
            go_cut [9, 10] (fun v9 v10 wx => ∃ g2 : Nat, v9 = .pointer (some ⟨g2, 0, none⟩) ∧ v10 = .bool r ∧ Aside0 (wx.heap[g2]? = some (.cells (msgA ⟨k', i', t', n', a', o'⟩) 28 (0, 0))) ∧ Aside0 (wx.heap[g]? = some (.cells (msgA ⟨k', i', t', n', a', o'⟩) 28 (0, 0))) ∧ Aside0 (Below w.heap.size w wx) ∧ Aside0 (IsLed w.heap.size wx w1.heap.size S'))
            case first =>
              go_region_held3 (fun w' => w'.cell? ⟨wr.heap.size, 0, none⟩ = some (.int .i64 xk) ∧ w'.cell? ⟨wr.heap.size, 1, none⟩ = some (.int .i64 xi) ∧ w'.cell? ⟨wr.heap.size, 2, none⟩ = some (.int .i64 xt) ∧ w'.cell? ⟨wr.heap.size, 3, none⟩ = some (.string xs) ∧ w'.cell? ⟨wr.heap.size, 4, none⟩ = some (.int .i64 xa) ∧ w'.cell? ⟨wr.heap.size, 5, none⟩ = some (.bool xo) ∧ w'.cell? ⟨(ad.add (i * 7)).block, (ad.add (i * 7)).off + 6, none⟩ = some (.bool acc))
                (refine S7 (w := w) (g := wr.heap.size) (m := ⟨xk, xi, xt, xs, xa, xo⟩) (by repeat (first | (with_reducible exact hV5'.out) | (with_reducible refine blk_drew ?_) | (with_reducible refine blk_alloc ?_ _) | (with_reducible refine blk_far ?_ (by first | omega | (simp; omega)) _) | (with_reducible refine hf4.same _ _ ?_ (by simp [Still])))) (by repeat (first | (with_reducible exact hVB'.out) | (with_reducible refine below_drew ?_) | (with_reducible refine below_alloc ?_ _) | (with_reducible refine below_set ?_ (by first | omega | (simp; omega))) | (with_reducible refine Below.trans ?_ hf4.below))) hadw hx6)
                (first
                  | (go_at_call 16; (refine (Take_at S' xk xi xt xs xa xo (!acc) _ _ _ _ _ _ _ _ htk2.out w.heap.size _ _ (by have := hVB'.out.size; simp; omega) (hVS'.out.below (by repeat (first | (with_reducible exact Below.refl _ _) | (with_reducible refine below_alloc ?_ _) | (with_reducible refine below_drew ?_)))) hlen'.out (by omega)).mono ?_); rintro e w4 ⟨rfl, hS4, hf4⟩; have hs4 := hf4.below.size; (try simp only [World.heap_drew] at hs4); have hl4 : w5.heap.size ≤ w4.heap.size := (by have := hf4.below.size; simp at this; omega); try (have hzb := hf4.same w5.heap.size _ (blk_new _ _) (by simp [Still]); obtain ⟨z0, z1, z2, z3, z4, z5, y0, y1, y2, y3, y4, y5⟩ := six_zero hzb; have hzb' := Aside0.mk hzb; clear hzb)))
              all_goals
                go_wp2_with fail
                go_meet
              · exact ⟨w4.heap.size, rfl, rfl, ⟨blk_new _ _⟩, ⟨blk_alloc (hf4.same _ _ hVg'.out (by simp [Still])) _⟩, ⟨below_alloc (hVB'.out.drew.trans hf4.below) _⟩, ⟨hS4.below (below_alloc (Below.refl _ _) _)⟩⟩
              · have h6 := six (m0 := msg0) (base := w.heap.size) hzb'.out hszV ⟨k', i', t', n', a', o'⟩ _ rfl
                exact ⟨w5.heap.size, rfl, rfl, ⟨h6.1⟩, ⟨by
                  have h5 := hf4.same _ _ (blk_alloc hVg'.out _) (by simp [Still])
                  repeat (first | (with_reducible exact h5) | (with_reducible refine blk_far ?_ (by first | omega | (simp; omega)) _))⟩, ⟨((below_alloc hVB'.out.drew _).trans hf4.below).trans h6.2.below⟩, ⟨hS4.fr h6.2 (by simp) (by simp) (by simp)⟩⟩
            case rest =>
              obtain ⟨g2, rfl, rfl, hg2, hg, hWB, hWS⟩ := hcut
              obtain ⟨c0, c1, c2, c3, c4, c5⟩ := msg_cells hg.out
              obtain ⟨d0, d1, d2, d3, d4, d5⟩ := msg_cells hg2.out
              simp only [] at c0 c1 c2 c3 c4 c5 d0 d1 d2 d3 d4 d5
              go_wp2_with (first | (go_at_call 17; (with_reducible refine (Effects_calls S' w.heap.size _ _ (by exact hWS.out) (by omega)).mono ?_); rintro e w6 ⟨v6, rfl, hR6, hb6⟩; obtain ⟨A6, c6, rfl, hc6, hC6⟩ := Kd.R_reads hR6) | fail)
              go_roundg k1
              case measure => have := hk.out; omega
              case rel => exact ⟨i + 1, S', by go_num, ⟨by have := hk.out; omega⟩, ⟨by have := hlt'.out; omega⟩, ⟨⟨hWS.out.below hb6, hlen'.out, by omega⟩⟩, ⟨hWB.out.trans (hb6.mono hWB.out.size)⟩⟩
      · have hd : decide ((i : Int) < (l.length : Int)) = false := decide_eq_false (by omega)
        have hd' : decide (i < l.length) = false := decide_eq_false hlt
        go_wp2
        go_ret
        exact ⟨rfl, hB.out⟩
end Go.Proofs.Ytdglbiafpofeeaa.Led
