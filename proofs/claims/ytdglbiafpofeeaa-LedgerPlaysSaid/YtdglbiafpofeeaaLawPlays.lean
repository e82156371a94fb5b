/- LedgerPlays, walked. -/
import Derived.Test.YtdglbiafpofeeaaRefCalls
import Derived.Deep.RegionHeld3
import Derived.Deep.DeepCutAuto
namespace Go.Proofs.Ytdglbiafpofeeaa.Led
open Go.RowKit Go.Proofs.YtdglbiafpofeeaaW.PrintWords Go.Proofs.YtdglbiafpofeeaaW.PrintLast Go.Proofs.YtdglbiafpofeeaaW.PrintMore Go.Proofs.Ytdglbiafpofeeaa.PLedgerPlays
set_option linter.unusedVariables false
set_option linter.unusedSimpArgs false
theorem eff_l0 (E : List Eff) (hE : E.length ≤ 100000) : ∀ (d i : Nat), E.length ≤ i + d → i ≤ E.length → ∀ k, d < k → tumbrellaw19_Effects.l0 k (E.map effS) ((E.take i).map effR) (E.length : Int) (i : Int) = some (E.map effR)
  | d, i, h1, h2 => fun k hk => by
    obtain ⟨k, rfl⟩ : ∃ m, k = m + 1 := ⟨k - 1, by omega⟩
    simp only [tumbrellaw19_Effects.l0]
    by_cases hlt : i < E.length
    · cases d with
      | zero => omega
      | succ d =>
        have hl : (List.map effR (List.take i E)).length < 3518437208883 := by simp; omega
        rw [if_pos (by omega), if_pos (by omega), if_pos (by simp; omega), if_pos hl]
        rw [show wrap64 ((i : Int) + 1) = ((i + 1 : Nat) : Int) from by unfold wrap64; omega]
        have hrd : rd_T36 (E.map effS) (i : Int) = effS E[i] := by simp [rd_T36, List.getD_eq_getElem?_getD, hlt]
        have hnext : List.map effR (List.take i E) ++ [(⟨(rd_T36 (E.map effS) (i : Int)).f0, (rd_T36 (E.map effS) (i : Int)).f1, (rd_T36 (E.map effS) (i : Int)).f2, (rd_T36 (E.map effS) (i : Int)).f3⟩ : S103)] = (E.take (i + 1)).map effR := by
          rw [hrd, List.take_succ_eq_append_getElem hlt, List.map_append]
          rfl
        rw [hnext]
        exact eff_l0 E hE d (i + 1) (by omega) (by omega) k (by omega)
    · rw [if_neg (by omega), show i = E.length by omega, List.take_length]
termination_by d => d
theorem eff_f (E : List Eff) (hE : E.length ≤ 100000) : tumbrellaw19_Effects.f (E.length + 1) (E.map effS) = some (E.map effR) := by
  unfold tumbrellaw19_Effects.f
  have h := eff_l0 E hE E.length 0 (by omega) (by omega) (E.length + 1) (by omega)
  simpa using h
theorem same_l0 (L : List S103) (hL : L.length ≤ 100000) : ∀ (d i : Nat), L.length ≤ i + d → i ≤ L.length → ∀ k, d < k → tumbrelref18_SameEffects.l0 k L L (L.length : Int) (i : Int) = some true
  | d, i, h1, h2 => fun k hk => by
    obtain ⟨k, rfl⟩ : ∃ m, k = m + 1 := ⟨k - 1, by omega⟩
    simp only [tumbrelref18_SameEffects.l0]
    by_cases hlt : i < L.length
    · cases d with
      | zero => omega
      | succ d =>
        rw [if_pos (by omega), if_pos (by omega), if_pos (by omega), if_pos (by omega), if_neg (by simp)]
        rw [show wrap64 ((i : Int) + 1) = ((i + 1 : Nat) : Int) from by unfold wrap64; omega]
        exact same_l0 L hL d (i + 1) (by omega) (by omega) k (by omega)
    · rw [if_neg (by omega)]
termination_by d => d
theorem same_f (L : List S103) (hL : L.length ≤ 100000) : tumbrelref18_SameEffects.f (L.length + 1) L L = some true := by
  unfold tumbrelref18_SameEffects.f
  rw [if_pos rfl]
  exact same_l0 L hL L.length 0 (by omega) (by omega) (L.length + 1) (by omega)
theorem effs_at (E : List Eff) (hE : E.length ≤ 100000) (A : Option Addr) (c : Nat) (w : World) (hC : Kd.C k36 w A (E.map effS).length (E.map effS)) (hc : (E.map effS).length ≤ c) :
    Calls Try.prog 21 #[.slice A E.length c] w fun e w' => ∃ A8 c8, e = .returned (.slice A8 E.length c8) ∧ Kd.C k103 w' A8 (E.map effR).length (E.map effR) ∧ (E.map effR).length ≤ c8 ∧ Below w.heap.size w w' := by
  have h := tumbrellaw19_Effects.calls (E.length + 1) A c (E.map effS) _ w hC hc (eff_f E hE)
  rw [List.length_map] at h
  refine h.mono ?_
  rintro e w' ⟨v, rfl, hR, hb⟩
  obtain ⟨A8, c8, rfl, hc8, hC8⟩ := Kd.R_reads hR
  exact ⟨A8, c8, by rw [List.length_map], hC8, hc8, hb⟩
theorem same_at (E : List Eff) (hE : E.length ≤ 100000) (A B : Option Addr) (c d : Nat) (w : World) (hC : Kd.C k103 w A (E.map effR).length (E.map effR)) (hc : (E.map effR).length ≤ c) (hD : Kd.C k103 w B (E.map effR).length (E.map effR)) (hd : (E.map effR).length ≤ d) :
    Calls Try.prog 20 #[.slice A E.length c, .slice B E.length d] w fun e w' => e = .returned (.bool true) ∧ Drawn0 w w' := by
  have h := tumbrelref18_SameEffects.calls ((E.map effR).length + 1) A c (E.map effR) B d (E.map effR) true w hC hc hD hd (same_f _ (by simpa using hE))
  rw [List.length_map] at h
  exact h
theorem Effects_at (S : St) (base p : Nat) (w : World) (hS : IsLed base w p S) (hE : S.E.length ≤ 1000000) : Calls Try.prog 17 #[.pointer (some ⟨p, 0, none⟩)] w fun e w' => ∃ A c, e = .returned (.slice A S.E.length c) ∧ Kd.C k36 w' A (S.E.map effS).length (S.E.map effS) ∧ (S.E.map effS).length ≤ c ∧ Below w.heap.size w w' := by
  refine (Effects_calls S base p w hS hE).mono ?_
  rintro e w' ⟨v, rfl, hR, hb⟩
  obtain ⟨A8, c8, rfl, hc8, hC8⟩ := Kd.R_reads hR
  exact ⟨A8, c8, by rw [List.length_map], hC8, hc8, hb⟩
theorem IsLed.nodup {base : Nat} {w : World} {p : Nat} {S : St} (h : IsLed base w p S) : (S.L.map (·.1)).Nodup := by
  obtain ⟨M, ent, mv, ev, h⟩ := h
  rw [h.L, List.map_map]
  exact h.map.dom.2
/-- A request of the script, in memory. -/
def Has7 (w : World) (ae : Addr) (x : S32) : Prop :=
  w.cell? ae = some (.int .i64 x.f0.f0) ∧ w.cell? ⟨ae.block, ae.off + 1, none⟩ = some (.int .i64 x.f0.f1) ∧ w.cell? ⟨ae.block, ae.off + 2, none⟩ = some (.int .i64 x.f0.f2) ∧ w.cell? ⟨ae.block, ae.off + 3, none⟩ = some (.string x.f0.f3) ∧ w.cell? ⟨ae.block, ae.off + 4, none⟩ = some (.int .i64 x.f0.f4) ∧ w.cell? ⟨ae.block, ae.off + 5, none⟩ = some (.bool x.f0.f5) ∧ w.cell? ⟨ae.block, ae.off + 6, none⟩ = some (.bool x.f1)
theorem Has7.below {w w' : World} {ae : Addr} {x : S32} (h : Has7 w ae x) (had : ae.block < w.heap.size) (hb : Below w.heap.size w w') : Has7 w' ae x := by
  obtain ⟨h0, h1, h2, h3, h4, h5, h6⟩ := h
  exact ⟨(hb.cell had).trans h0, (hb.cell (p := ⟨ae.block, ae.off + 1, none⟩) had).trans h1, (hb.cell (p := ⟨ae.block, ae.off + 2, none⟩) had).trans h2, (hb.cell (p := ⟨ae.block, ae.off + 3, none⟩) had).trans h3, (hb.cell (p := ⟨ae.block, ae.off + 4, none⟩) had).trans h4, (hb.cell (p := ⟨ae.block, ae.off + 5, none⟩) had).trans h5, (hb.cell (p := ⟨ae.block, ae.off + 6, none⟩) had).trans h6⟩
theorem keep7 {w w' : World} {ae ad : Addr} {k i t : Int} {s : ByteArray} {a : Int} {o acc : Bool} (h : Has7 w ae ⟨⟨k, i, t, s, a, o⟩, acc⟩) (had : ae.block < w.heap.size) (e : ad = ae) (hb : Below w.heap.size w w') :
    w'.cell? ad = some (.int .i64 k) ∧ w'.cell? ⟨ad.block, ad.off + 1, none⟩ = some (.int .i64 i) ∧ w'.cell? ⟨ad.block, ad.off + 2, none⟩ = some (.int .i64 t) ∧ w'.cell? ⟨ad.block, ad.off + 3, none⟩ = some (.string s) ∧ w'.cell? ⟨ad.block, ad.off + 4, none⟩ = some (.int .i64 a) ∧ w'.cell? ⟨ad.block, ad.off + 5, none⟩ = some (.bool o) ∧ w'.cell? ⟨ad.block, ad.off + 6, none⟩ = some (.bool acc) := by
  subst e
  exact h.below had hb
theorem keep1 {W w' : World} {g t : Nat} {lv ev : Value} (h : W.heap[g]? = some (.cells #[lv, ev] t (0, 0))) (hb : Below W.heap.size W w') : w'.cell? ⟨g, 1, none⟩ = some ev := (blk_cell (blk_below h hb) 1).trans rfl
theorem six_zero' {W : World} {g : Nat} (h : W.heap[g]? = some (.cells #[.int .i64 0, .int .i64 0, .int .i64 0, .string ⟨#[]⟩, .int .i64 0, .bool false] 28 (0, 0))) :
    W.cell? ⟨g, 0, none⟩ = some (.int .i64 0) ∧ W.cell? ⟨g, 1, none⟩ = some (.int .i64 0) ∧ W.cell? ⟨g, 2, none⟩ = some (.int .i64 0) ∧ W.cell? ⟨g, 3, none⟩ = some (.string ⟨#[]⟩) ∧ W.cell? ⟨g, 4, none⟩ = some (.int .i64 0) ∧ W.cell? ⟨g, 5, none⟩ = some (.bool false) ∧
    W.frozen? ⟨g, 0, none⟩ = false ∧ W.frozen? ⟨g, 1, none⟩ = false ∧ W.frozen? ⟨g, 2, none⟩ = false ∧ W.frozen? ⟨g, 3, none⟩ = false ∧ W.frozen? ⟨g, 4, none⟩ = false ∧ W.frozen? ⟨g, 5, none⟩ = false :=
  ⟨(blk_cell h 0).trans rfl, (blk_cell h 1).trans rfl, (blk_cell h 2).trans rfl, (blk_cell h 3).trans rfl, (blk_cell h 4).trans rfl, (blk_cell h 5).trans rfl, blk_frozen h 0, blk_frozen h 1, blk_frozen h 2, blk_frozen h 3, blk_frozen h 4, blk_frozen h 5⟩
set_option maxHeartbeats 8000000 in
set_option maxRecDepth 100000 in
theorem plays_calls (A : Option Addr) (c : Nat) (l : List S32) (zero : Bool) (w : World) (hl : l.length ≤ 140737488351232) (hC : Kd.C k32 w A l.length l) (hc : l.length ≤ c) :
    Calls Try.prog 5 #[.slice A l.length c, .bool zero] w fun e w' => e = .returned (.bool true) ∧ Below w.heap.size w w' := by
  obtain ⟨b, hb400, hfew⟩ := few_calls l (by omega)
  have hfew' := Aside0.mk hfew
  have hC' := Aside0.mk hC
  have hc' := Aside0.mk hc
  clear hfew hC hc
  cases b with
  | false =>
    go_enter Try.func5, Try.ntmps5
    go_wp2_with fail
    refine (awake_calls _).mono ?_
    rintro e w1 ⟨rfl, hb1⟩
    go_wp2_with fail
    refine (hfew'.out A c _ (Kd.C_below hC'.out hb1) hc'.out).mono ?_
    rintro e w2 ⟨rfl, ⟨m, rfl⟩⟩
    go_wp2_with fail
    refine (awake_calls _).mono ?_
    rintro e w3 ⟨rfl, hb3⟩
    go_wp2
    go_ret
    exact ⟨rfl, below_step (pw_below_drewN hb1 m) hb3⟩
  | true =>
    have h400 := hb400 rfl
    have h400' := Aside0.mk h400
    clear hb400
    go_enter Try.func5, Try.ntmps5
    go_wp2_with fail
    refine (awake_calls _).mono ?_
    rintro e w1 ⟨rfl, hb1⟩
    go_wp2_with fail
    refine (hfew'.out A c _ (Kd.C_below hC'.out hb1) hc'.out).mono ?_
    rintro e w2 ⟨rfl, ⟨m, hm2⟩⟩
    have hb2 : Below w.heap.size w w2 := by rw [hm2]; exact pw_below_drewN hb1 m
    clear hm2 hb1
    go_upto_if 23 with (first | (go_at_call 15; (with_reducible refine (New_calls _).mono ?_); rintro e w3 ⟨rfl, rfl⟩))
    have hB3 : Aside0 (Below w.heap.size w ((w2.alloc (.cells #[.map none, .slice none 0 0] 44)).alloc (.cells #[.slice none 0 0, .slice none 0 0] 41))) := ⟨below_alloc (below_alloc hb2 _) _⟩
    have hsz := hb2.size
    have hL3 : Aside0 (IsLed w.heap.size ((w2.alloc (.cells #[.map none, .slice none 0 0] 44)).alloc (.cells #[.slice none 0 0, .slice none 0 0] 41)) w2.heap.size st0) := ⟨(New_is w.heap.size w2 hsz).below (below_alloc (Below.refl _ _) _)⟩
    have hR3 : Aside0 (IsRef w.heap.size ((w2.alloc (.cells #[.map none, .slice none 0 0] 44)).alloc (.cells #[.slice none 0 0, .slice none 0 0] 41)) (w2.heap.size + 1) [] []) := ⟨by
      have h := ref_new w.heap.size (w2.alloc (.cells #[.map none, .slice none 0 0] 44)) (by simp; omega)
      simpa using h⟩
    go_cut [5] (fun v5 wx => ∃ g, v5 = .pointer (some ⟨g, 0, none⟩) ∧ Aside0 (IsLed w.heap.size wx g st0) ∧ Aside0 (IsRef w.heap.size wx (w2.heap.size + 1) [] []) ∧ Aside0 (Below w.heap.size w wx))
    case first =>
      cases zero with
      | false =>
        go_wp2_with fail
        go_meet
        exact ⟨_, rfl, hL3, hR3, hB3⟩
      | true =>
        go_wp2_with fail
        go_meet
        refine ⟨_, rfl, ⟨?_⟩, ⟨hR3.out.below (below_alloc (Below.refl _ _) _)⟩, ⟨below_alloc hB3.out _⟩⟩
        have h := New_is w.heap.size ((w2.alloc (.cells #[.map none, .slice none 0 0] 44)).alloc (.cells #[.slice none 0 0, .slice none 0 0] 41)) (by simp; omega)
        simpa using h
    case rest =>
      obtain ⟨g, rfl, hL4, hR4, hB4⟩ := hcut
      clear hL3 hR3 hB3
      go_wp2_with fail
      go_loopg [28] (l.length + 1) (fun kq v28 w' => ∃ (i : Nat) (S : St), v28 = .int .i64 (i : Int) ∧ Aside0 (kq + i = l.length + 1) ∧ Aside0 (i ≤ l.length) ∧ Aside0 (Run w.heap.size w' g S i) ∧ Aside0 (IsRef w.heap.size w' (w2.heap.size + 1) (S.L.map toRef) (S.E.map effR)) ∧ Aside0 (Below w.heap.size w w'))
      case atStart => exact ⟨0, st0, rfl, ⟨by omega⟩, ⟨by omega⟩, ⟨hL4.out, by decide, by decide⟩, hR4, hB4⟩
      case round =>
        obtain ⟨i, S, rfl, hk, hi, hR, hF, hB⟩ := hrel
        by_cases hlt : i < l.length
        · have hd : decide ((i : Int) < (l.length : Int)) = true := decide_eq_true (by omega)
          have hd' : decide (i < l.length) = true := decide_eq_true hlt
          cases gk with
          | zero => exact absurd hk.out (by omega)
          | succ k1 =>
            have hi400 : (i : Int) ≤ 400 := by omega
            have hlt' := Aside0.mk hlt
            have p1 : 0 ≤ (i : Int) := by omega
            have q1 : (i : Int) < (l.length : Int) := by omega
            obtain ⟨ad, e1, hx⟩ := at_T32 hC'.out (i : Int) p1 q1
            cases e1
            rw [show ((i : Int)).toNat = i from by simp] at hx
            have hadw : (ad.add (i * 7)).block < w.heap.size := World.block_lt_of_cell? w _ hx.1
            obtain ⟨x, hxx⟩ : ∃ x, rd_T32 l (i : Int) = x := ⟨_, rfl⟩
            rw [hxx] at hx
            have hX : Aside0 (Has7 w (ad.add (i * 7)) x) := ⟨hx⟩
            obtain ⟨⟨xk, xi, xt, xs, xa, xo⟩, acc⟩ := x
            obtain ⟨⟨S', ⟨k', i', t', n', a', o'⟩, r⟩, htk⟩ : ∃ r, take S ⟨xk, xi, xt, xs, xa, xo⟩ acc = r := ⟨_, rfl⟩
            have htk' := Aside0.mk htk
            have hlen' : Aside0 (S'.L.length ≤ 200) := ⟨by have h := take_length S ⟨xk, xi, xt, xs, xa, xo⟩ acc hR.out.len; rw [htk] at h; exact h⟩
            have hE' : S'.E.length ≤ i + 1 := by have h := take_effs S ⟨xk, xi, xt, xs, xa, xo⟩ acc; have h2 := hR.out.effs; rw [htk] at h; simp only [] at h; omega
            have hnd := Aside0.mk hR.out.is.nodup
            obtain ⟨ae, hae⟩ : ∃ ae, ad.add (i * 7) = ae := ⟨_, rfl⟩
            have hae' := Aside0.mk hae
            rw [hae] at hX hadw
            have hszr : w.heap.size ≤ wr.heap.size := hB.out.size
            clear hxx htk hx hae
            go_upto_region 9 with fail
            go_cut [8, 9] (fun v8 v9 wx => ∃ g8 : Nat, v8 = .pointer (some ⟨g8, 0, none⟩) ∧ v9 = .bool r ∧ Aside0 (wx.heap[g8]? = some (.cells (msgA ⟨k', i', t', n', a', o'⟩) 28 (0, 0))) ∧ Aside0 (Below w.heap.size w wx) ∧ Aside0 (IsLed w.heap.size wx g S') ∧ Aside0 (IsRef w.heap.size wx (w2.heap.size + 1) (S.L.map toRef) (S.E.map effR)))
            case first =>
              go_region_held3 (fun w' => w'.cell? (ad.add (i * 7)) = some (.int .i64 xk) ∧ w'.cell? ⟨(ad.add (i * 7)).block, (ad.add (i * 7)).off + 1, none⟩ = some (.int .i64 xi) ∧ w'.cell? ⟨(ad.add (i * 7)).block, (ad.add (i * 7)).off + 2, none⟩ = some (.int .i64 xt) ∧ w'.cell? ⟨(ad.add (i * 7)).block, (ad.add (i * 7)).off + 3, none⟩ = some (.string xs) ∧ w'.cell? ⟨(ad.add (i * 7)).block, (ad.add (i * 7)).off + 4, none⟩ = some (.int .i64 xa) ∧ w'.cell? ⟨(ad.add (i * 7)).block, (ad.add (i * 7)).off + 5, none⟩ = some (.bool xo) ∧ w'.cell? ⟨(ad.add (i * 7)).block, (ad.add (i * 7)).off + 6, none⟩ = some (.bool acc))
                (refine keep7 hX.out hadw hae'.out (by repeat (first | (with_reducible exact hB.out) | (with_reducible refine below_drew ?_) | (with_reducible refine below_alloc ?_ _) | (with_reducible refine below_set ?_ (by first | omega | (simp; omega))) | (with_reducible refine Below.trans ?_ hf4.below))))
                (first
                | (go_at_call 16; (refine (Take_at S xk xi xt xs xa xo acc _ _ _ _ _ _ _ _ htk'.out w.heap.size _ _ (by simp; omega) (hR.out.is.below (by repeat (first | (with_reducible exact Below.refl _ _) | (with_reducible refine below_alloc ?_ _) | (with_reducible refine below_drew ?_)))) hR.out.len (by have := hR.out.effs; omega)).mono ?_); rintro e w4 ⟨rfl, hS4, hf4⟩; have hl4 : wr.heap.size ≤ w4.heap.size := (by have := hf4.below.size; simp at this; omega); try (have hzb := hf4.same wr.heap.size _ (blk_new _ _) (by simp [Still]); obtain ⟨z0, z1, z2, z3, z4, z5, y0, y1, y2, y3, y4, y5⟩ := six_zero' hzb; have hzb' := Aside0.mk hzb; clear hzb)))
              all_goals
                go_wp2_with fail
                go_meet
              · exact ⟨w4.heap.size, rfl, rfl, ⟨blk_new _ _⟩, ⟨below_alloc (hB.out.drew.trans hf4.below) _⟩, ⟨hS4.below (below_alloc (Below.refl _ _) _)⟩, ⟨((hF.out.below (below_drew (Below.refl _ _))).fr hf4 (by simp) (by simp) (by simp)).below (below_alloc (Below.refl _ _) _)⟩⟩
              · have h6 := six (m0 := msg0) (base := w.heap.size) hzb'.out hszr ⟨k', i', t', n', a', o'⟩ _ rfl
                exact ⟨wr.heap.size, rfl, rfl, ⟨h6.1⟩, ⟨((below_alloc hB.out.drew _).trans hf4.below).trans h6.2.below⟩, ⟨hS4.fr h6.2 (by simp) (by simp) (by simp)⟩, ⟨((hF.out.below (below_alloc (below_drew (Below.refl _ _)) _)).fr hf4 (by simp) (by simp) (by simp)).fr h6.2 (by simp) (by simp) (by simp)⟩⟩
            case rest =>
              obtain ⟨g8, rfl, rfl, hg8, hB5, hS5, hF5⟩ := hcut
              obtain ⟨w5, hw5⟩ : ∃ w5, wc = w5 := ⟨_, rfl⟩
              rw [hw5] at hg8 hB5 hS5 hF5 ⊢
              have hsz5 : w.heap.size ≤ w5.heap.size := hB5.out.size
              clear hw5
              go_upto_region 10 with fail
              go_cut [10, 11] (fun v10 v11 wx => ∃ g10 : Nat, v10 = .pointer (some ⟨g10, 0, none⟩) ∧ v11 = .bool r ∧ Aside0 (wx.heap[g10]? = some (.cells (msgA ⟨k', i', t', n', a', o'⟩) 28 (0, 0))) ∧ Aside0 (wx.heap[g8]? = some (.cells (msgA ⟨k', i', t', n', a', o'⟩) 28 (0, 0))) ∧ Aside0 (Below w.heap.size w wx) ∧ Aside0 (IsLed w.heap.size wx g S') ∧ Aside0 (IsRef w.heap.size wx (w2.heap.size + 1) (S'.L.map toRef) (S'.E.map effR)))
              case first =>
                go_region_held3 (fun w' => w'.cell? (ad.add (i * 7)) = some (.int .i64 xk) ∧ w'.cell? ⟨(ad.add (i * 7)).block, (ad.add (i * 7)).off + 1, none⟩ = some (.int .i64 xi) ∧ w'.cell? ⟨(ad.add (i * 7)).block, (ad.add (i * 7)).off + 2, none⟩ = some (.int .i64 xt) ∧ w'.cell? ⟨(ad.add (i * 7)).block, (ad.add (i * 7)).off + 3, none⟩ = some (.string xs) ∧ w'.cell? ⟨(ad.add (i * 7)).block, (ad.add (i * 7)).off + 4, none⟩ = some (.int .i64 xa) ∧ w'.cell? ⟨(ad.add (i * 7)).block, (ad.add (i * 7)).off + 5, none⟩ = some (.bool xo) ∧ w'.cell? ⟨(ad.add (i * 7)).block, (ad.add (i * 7)).off + 6, none⟩ = some (.bool acc))
                  (refine keep7 hX.out hadw hae'.out (by repeat (first | (with_reducible exact hB5.out) | (with_reducible refine below_drew ?_) | (with_reducible refine below_alloc ?_ _) | (with_reducible refine below_set ?_ (by first | omega | (simp; omega))) | (with_reducible refine Below.trans ?_ hf4.below))))
                  (first
                | (go_at_call 18; (refine (rTake_at S hnd.out hR.out.len (by have := hR.out.effs; omega) xk xi xt xs xa xo acc _ _ _ _ _ _ _ _ htk'.out w.heap.size (w2.heap.size + 1) _ (by simp; omega) (hF5.out.below (by repeat (first | (with_reducible exact Below.refl _ _) | (with_reducible refine below_alloc ?_ _) | (with_reducible refine below_drew ?_))))).mono ?_); rintro e w4 ⟨rfl, hS4, hf4⟩; have hl4 : w5.heap.size ≤ w4.heap.size := (by have := hf4.below.size; simp at this; omega); try (have hzb := hf4.same w5.heap.size _ (blk_new _ _) (by simp [Still]); obtain ⟨z0, z1, z2, z3, z4, z5, y0, y1, y2, y3, y4, y5⟩ := six_zero' hzb; have hzb' := Aside0.mk hzb; clear hzb)))
                all_goals
                  go_wp2_with fail
                  go_meet
                · exact ⟨w4.heap.size, rfl, rfl, ⟨blk_new _ _⟩, ⟨blk_alloc (hf4.same _ _ hg8.out (by simp [Still])) _⟩, ⟨below_alloc (hB5.out.drew.trans hf4.below) _⟩, ⟨((hS5.out.below (below_drew (Below.refl _ _))).fr hf4 (by simp) (by simp) (by simp)).below (below_alloc (Below.refl _ _) _)⟩, ⟨hS4.below (below_alloc (Below.refl _ _) _)⟩⟩
                · have h6 := six (m0 := msg0) (base := w.heap.size) hzb'.out hsz5 ⟨k', i', t', n', a', o'⟩ _ rfl
                  have hne8 : g8 ≠ w5.heap.size := by have := blk_lt hg8.out; omega
                  have h58 := hf4.same _ _ (blk_alloc hg8.out (.cells (msgA msg0) 28)) (by simp [Still])
                  exact ⟨w5.heap.size, rfl, rfl, ⟨h6.1⟩, ⟨by repeat (first | (with_reducible exact h58) | (with_reducible refine blk_far ?_ (by first | omega | (simp; omega)) _))⟩, ⟨((below_alloc hB5.out.drew _).trans hf4.below).trans h6.2.below⟩, ⟨((hS5.out.below (below_alloc (below_drew (Below.refl _ _)) _)).fr hf4 (by simp) (by simp) (by simp)).fr h6.2 (by simp) (by simp) (by simp)⟩, ⟨hS4.fr h6.2 (by simp) (by simp) (by simp)⟩⟩
              case rest =>
                obtain ⟨g10, rfl, rfl, hg10, hg8', hB6, hS6, hF6⟩ := hcut
                obtain ⟨c0, c1, c2, c3, c4, c5⟩ := msg_cells hg8'.out
                obtain ⟨d0, d1, d2, d3, d4, d5⟩ := msg_cells hg10.out
                simp only [] at c0 c1 c2 c3 c4 c5 d0 d1 d2 d3 d4 d5
                obtain ⟨lv, ev, hA6⟩ := hF6.out
                obtain ⟨A6, c6, hlv⟩ := Kd.R_slice hA6.L
                rw [List.length_map] at hlv
                have pr0 : wc.cell? ⟨w2.heap.size + 1, 0, none⟩ = some (.slice A6 S'.L.length c6) := by rw [← hlv]; exact (blk_cell hA6.blk 0).trans rfl
                clear hA6 hlv
                go_upto_region 11 with fail
                go_region_held3 (fun w' => w'.cell? ⟨g8, 0, none⟩ = some (.int .i64 k') ∧ w'.cell? ⟨g8, 1, none⟩ = some (.int .i64 i') ∧ w'.cell? ⟨g8, 2, none⟩ = some (.int .i64 t') ∧ w'.cell? ⟨g8, 3, none⟩ = some (.string n') ∧ w'.cell? ⟨g8, 4, none⟩ = some (.int .i64 a') ∧ w'.cell? ⟨g8, 5, none⟩ = some (.bool o') ∧ w'.cell? ⟨g10, 0, none⟩ = some (.int .i64 k') ∧ w'.cell? ⟨g10, 1, none⟩ = some (.int .i64 i') ∧ w'.cell? ⟨g10, 2, none⟩ = some (.int .i64 t') ∧ w'.cell? ⟨g10, 3, none⟩ = some (.string n') ∧ w'.cell? ⟨g10, 4, none⟩ = some (.int .i64 a') ∧ w'.cell? ⟨g10, 5, none⟩ = some (.bool o') ∧ w'.cell? ⟨w2.heap.size + 1, 0, none⟩ = some (.slice A6 S'.L.length c6))
                  (exact ⟨c0, c1, c2, c3, c4, c5, d0, d1, d2, d3, d4, d5, pr0⟩)
                  (first | (go_at_call 19; (refine (Len_calls S' w.heap.size g _ (hS6.out.below (below_drew (Below.refl _ _)))).mono ?_); rintro e w6 ⟨rfl, rfl⟩))
                go_wp2
                go_roundg k1
                case measure => have := hk.out; omega
                case rel => exact ⟨i + 1, S', by go_num, ⟨by have := hk.out; omega⟩, ⟨by have := hlt'.out; omega⟩, ⟨hS6.out.below (below_drew (Below.refl _ _)), hlen'.out, by omega⟩, ⟨hF6.out.below (below_drew (Below.refl _ _))⟩, ⟨below_drew hB6.out⟩⟩
        · have hd : decide ((i : Int) < (l.length : Int)) = false := decide_eq_false (by omega)
          have hd' : decide (i < l.length) = false := decide_eq_false hlt
          have hE4 : S.E.length ≤ 400 := by have := hR.out.effs; have := hi.out; omega
          have hE4' := Aside0.mk hE4
          obtain ⟨lv, ev, hA6⟩ := hF.out
          obtain ⟨A6, c6, rfl, hc6, hC6⟩ := Kd.R_reads hA6.E
          have hb0 := hA6.blk
          rw [List.length_map] at hb0
          have hblk := Aside0.mk hb0
          clear hb0
          have hC6' := Aside0.mk hC6
          have hc6' := Aside0.mk hc6
          clear hA6 hE4 hC6 hc6
          go_upto_region 14 with fail
          go_region_held3 (fun w' => w'.cell? ⟨w2.heap.size + 1, 1, none⟩ = some (.slice A6 S.E.length c6))
            (refine keep1 hblk.out (by repeat (first | (with_reducible exact Below.refl _ _) | (with_reducible refine below_drew ?_) | (with_reducible refine pw_below_drewN ?_ _) | (with_reducible exact hw7) | (with_reducible exact hw6))))
            (first
              | (go_at_call 17; (refine (Effects_at S w.heap.size g _ (hR.out.is.below (below_drew (Below.refl _ _))) (by have := hE4'.out; omega)).mono ?_); rintro e w6 ⟨A7, c7, rfl, hC7, hc7, hb6⟩; have hw6 : Below wr.heap.size wr w6 := (below_drew (Below.refl _ _)).trans hb6; have hc7' := Aside0.mk hc7; have hC7' := Aside0.mk hC7; clear hc7 hC7)
              | (go_at_call 21; (refine (effs_at S.E (by have := hE4'.out; omega) A7 c7 _ hC7'.out hc7'.out).mono ?_); rintro e w7 ⟨A8, c8, rfl, hC8, hc8, hb7⟩; have hw7 : Below wr.heap.size wr w7 := below_step hw6 hb7; have hc8' := Aside0.mk hc8; have hC8' := Aside0.mk hC8; clear hc8 hC8)
              | (go_at_call 20; (refine (same_at S.E (by have := hE4'.out; omega) A8 A6 c8 c6 _ hC8'.out hc8'.out (Kd.C_below hC6'.out hw7) hc6'.out).mono ?_); rintro e w8 ⟨rfl, ⟨n8, rfl⟩⟩))
          go_wp2
          go_ret
          exact ⟨rfl, pw_below_drewN (hB.out.trans (hw7.mono hB.out.size)) _⟩
end Go.Proofs.Ytdglbiafpofeeaa.Led
