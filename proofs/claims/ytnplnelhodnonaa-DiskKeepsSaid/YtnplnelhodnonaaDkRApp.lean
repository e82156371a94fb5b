/- The document's Append, walked (its last drawn region printed by genDR.py). -/
import Derived.Test.YtnplnelhodnonaaDkRDrop
namespace Go.Proofs.Ytnplnelhodnonaa.Dsk
open Go.RowKit Go.Proofs.YtnplnelhodnonaaW.PrintWords Go.Proofs.YtnplnelhodnonaaW.PrintLast Go.Proofs.YtnplnelhodnonaaW.PrintMore
open Amap Frm
set_option linter.unusedVariables false
set_option linter.unusedSimpArgs false
set_option linter.unusedSectionVars false
/-! ### plain -/
theorem rput_old {L : Sgs} (hr : rises L) {n : Int} {s : Sg} (h : mlook L n = some s) (u : Sg) : rput L n u = mput L n u := by
  induction L with
  | nil => cases h
  | cons p m ih =>
    have hr' := List.pairwise_cons.1 hr
    have hm : ∀ q ∈ m, p.1 < q.1 := fun q hq => hr'.1 q.1 (List.mem_map.2 ⟨q, hq, rfl⟩)
    unfold mlook at h
    unfold rput mput
    by_cases e : p.1 = n
    · rw [if_neg (by omega), if_pos e, if_pos e]
    · rw [if_neg e] at h
      have := hm _ (look_mem h)
      simp only [] at this
      rw [if_pos this, if_neg e, ih hr'.2 h]
theorem rput_at {L : Sgs} {n : Int} (hx : mlook L n = none) (hr : rises L) (u : Sg) : ∀ (i : Nat), i ≤ L.length → (∀ (j : Nat) (q : Int × Sg), j < i → L[j]? = some q → q.1 < n) → (∀ q, L[i]? = some q → ¬ (q.1 < n)) → rput L n u = L.take i ++ [(n, u)] ++ L.drop i := by
  induction L with
  | nil => intro i hi _ _; simp [rput]
  | cons p m ih =>
    intro i hi h1 h2
    have hr' := List.pairwise_cons.1 hr
    unfold mlook at hx
    split at hx
    · cases hx
    · rename_i hne
      cases i with
      | zero =>
        have := h2 p rfl
        unfold rput
        rw [if_neg this, if_neg hne]
        simp
      | succ i =>
        have := h1 0 p (by omega) rfl
        unfold rput
        rw [if_pos this, ih hx hr'.2 i (by simpa using hi) (fun j q hj hq => h1 (j + 1) q (by omega) (by simpa using hq)) (fun q hq => h2 q (by simpa using hq))]
        simp
theorem look_rput (L : Sgs) (n : Int) (u : Sg) (hr : rises L) : mlook (rput L n u) n = some u := by
  refine mem_look (rput_rises hr n u).nd ?_
  have := (rput_oth hr n u).mem_iff (a := (n, u))
  exact this.2 (List.mem_cons_self ..)
theorem put_rput {L : Sgs} (hr : rises L) {n : Int} (hx : mlook L n = none) (v u : Sg) : mput (rput L n v) n u = rput L n u := by
  induction L with
  | nil => simp [rput, mput]
  | cons p m ih =>
    have hr' := List.pairwise_cons.1 hr
    unfold mlook at hx
    split at hx
    · cases hx
    · rename_i hne
      unfold rput
      by_cases e : p.1 < n
      · rw [if_pos e, if_pos e]
        simp [mput, hne, ih hr'.2 hx]
      · rw [if_neg e, if_neg e, if_neg hne, if_neg hne]
        simp [mput]
theorem cutsI {w : World} {ok : Nat → Prop} {A2 : Option Addr} {m c2 : Nat} {ys : Sgs} (hq : Kd.Q kSeg 81 w 0 ok (.slice A2 m c2) ys) {n : Nat} (hn : n ≤ m) :
    m = ys.length ∧ (∀ W : World, (Instr.slice 69 (.slice A2 m c2) none (some (.int .i64 (n : Int))) none).run Try.prog W = .ok (.slice A2 n c2) W) ∧ Kd.Q kSeg 81 w 0 ok (.slice A2 n c2) (ys.take n) ∧
      ∃ A' c', (∀ W : World, (Instr.slice 69 (.slice A2 m c2) (some (.int .i64 (n : Int))) none none).run Try.prog W = .ok (.slice A' (m - n) c') W) ∧ Kd.Q kSeg 81 w 0 ok (.slice A' (m - n) c') (ys.drop n) := by
  obtain ⟨hm, hmc, _⟩ := Kd.Q_reads' hq
  obtain ⟨i0, hi0, hz⟩ := Option.map_eq_some_iff.1 info81
  simp only [Prod.mk.injEq] at hz
  have h1 := cut_to (P := Try.prog) 69 81 .i64 Try.underlying69 hi0 A2 m c2 (n : Int) (by omega) (by omega) hmc
  rw [show ((n : Int)).toNat = n from by simp] at h1
  have h2 := cut_from (P := Try.prog) 69 81 .i64 Try.underlying69 hi0 3 hz.2.1 A2 m c2 (n : Int) (by omega) (by omega)
  rw [show ((n : Int)).toNat = n from by simp] at h2
  have h3 := Kd.Q_drop (k := n) hq (by omega)
  exact ⟨hm, h1, Kd.Q_take hq (by omega), _, _, h2, h3⟩
section
variable (R : RSt) (n : Int) (L : List Int) (A : Option Addr) (cp : Nat) (hl : R.L.length ≤ 100000) (hu : used R.L ≤ 50000000) (hn : rises R.L) (hf : R.fuse ≤ 9223372036854775807) (hr0 : 0 ≤ R.room) (hr1 : R.room ≤ 9223372036854775807) (ok : Nat → Prop) (p : Nat) (w : World) (hok : ∀ k, w.heap.size ≤ k → ok k) (h : IsR ok w p R) (hL : L.length ≤ 1000000) (hcc : ∀ w1, Fy ok w w1 → Kd.C (Kd.int .u8) w1 A L.length L)
include hl hu hn hf hr0 hr1 hok h hL hcc
set_option maxHeartbeats 4000000 in
set_option maxRecDepth 100000 in
theorem RAppend_calls : Calls Try.prog 41 #[.pointer (some ⟨p, 0, none⟩), .int .i64 n, .slice A L.length cp] w fun e w' => e = .returned (.int .i64 (rappend R n L).2) ∧ IsR ok w' p (rappend R n L).1 ∧ Fy ok w w' := by
  have hU := Aside0.mk (RUsed_calls R (by omega) hl ok p w.drew (h.below (below_drew (Below.refl _ _))))
  obtain ⟨v, h⟩ := h
  obtain ⟨c0, c1, c2, c3⟩ := h.cells
  have h' := Aside0.mk h
  cases hd : R.dead with
  | true =>
    have e : rappend R n L = (R, 8) := by unfold rappend; rw [if_pos hd]
    rw [e]
    rw [hd] at c3
    clear e h hd hn hu hok hl c0 c1 c2 hf hL hcc hr0 hr1
    go_enter Try.func41, Try.ntmps41
    go_wp2_with fail
    go_ret
    exact ⟨rfl, ⟨_, h'.out⟩, Fy.refl _ _⟩
  | false =>
    rw [hd] at c3
    by_cases hn0 : n < 0
    · have e : rappend R n L = (R, 1) := by unfold rappend; rw [if_neg (by simp [hd]), if_pos hn0]
      rw [e]
      clear e h hd hn hu hok hl c0 c1 c2 hf hL hcc hr0 hr1
      go_enter Try.func41, Try.ntmps41
      go_wp2_with fail
      go_ret
      exact ⟨rfl, ⟨_, h'.out⟩, Fy.refl _ _⟩
    · have hn0' : ¬ (n < 0) := hn0
      obtain ⟨U, hUU⟩ : ∃ U, used R.L = U := ⟨_, rfl⟩
      obtain ⟨r, hrr⟩ : ∃ r, R.room = r := ⟨_, rfl⟩
      by_cases hfu : (L.length : Int) > R.room - used R.L
      · have e : rappend R n L = (R, 7) := by unfold rappend; rw [if_neg (by simp [hd]), if_neg hn0, if_pos hfu]
        rw [e]
        rw [hUU] at hU hfu hu
        rw [hrr] at c1 hfu hr0 hr1
        have hcw : IntKind.i64.wrap (r - (U : Int)) = r - (U : Int) := by simp [IntKind.wrap, IntKind.signed, IntKind.bits]; omega
        have hu' := Aside0.mk hu
        clear e h hd hn hu hok hl c0 c2 hf hL hcc hr0 hr1 hn0 hUU hrr
        go_enter Try.func41, Try.ntmps41
        go_upto_region 5 with fail
        go_region_held3 (fun w' => w'.cell? ⟨p, 1, none⟩ = some (.int .i64 r))
          (first | (exact c1) | (exact c1))
          (first
            | (go_at_call 46; (with_reducible refine hU.out.mono ?_); rintro e w1 ⟨rfl, rfl⟩)
            | fail)
        go_wp2
        go_ret
        exact ⟨rfl, ⟨_, h'.out.below (below_drew (Below.refl _ _))⟩, (Fy.refl _ _).drew⟩
      · have hb := fun (w1 : World) (h1 : RAt ok w1 p R v) => rburn_calls R hf v ok p w1 h1
        have hBL := rburn_L R
        obtain ⟨⟨B, y⟩, hB⟩ : ∃ r, rburn R = r := ⟨_, rfl⟩
        rw [hB] at hb hBL
        simp only [] at hb hBL
        have e : rappend R n L = if y = true then (B.withL (rput R.L n ((sg R.L n).1 ++ L, (sg R.L n).2)), 0) else (B, 8) := by unfold rappend; rw [if_neg (by simp [hd]), if_neg hn0, if_neg hfu, hB]
        rw [e]
        have hus := Aside0.mk (used_sg R.L n)
        rw [hUU] at hU hfu hu hus
        rw [hrr] at c1 hfu hr0 hr1
        have hcw : IntKind.i64.wrap (r - (U : Int)) = r - (U : Int) := by simp [IntKind.wrap, IntKind.signed, IntKind.bits]; omega
        have hu' := Aside0.mk hu
        have hL' := Aside0.mk hL
        have hl' := Aside0.mk hl
        have hn' := Aside0.mk hn
        have hok' := Aside0.mk hok
        have hcc' := Aside0.mk hcc
        have hBL' := Aside0.mk hBL
        have hb' := Aside0.mk hb
        have hwd : w.heap.size ≤ w.drew.heap.size := Nat.le_refl _
        clear e h hd hn hu hok hl c0 c2 hf hL hcc hr0 hr1 hn0 hUU hrr hBL hb hB
        go_enter Try.func41, Try.ntmps41
        go_upto_region 5 with fail
        go_region_held3 (fun w' => w'.cell? ⟨p, 1, none⟩ = some (.int .i64 r))
          (first | (exact c1) | (exact c1))
          (first
            | (go_at_call 46; (with_reducible refine hU.out.mono ?_); rintro e w1 ⟨rfl, rfl⟩)
            | fail)
        cases y with
        | false =>
          go_wp2_with (first | (go_at_call 63; (with_reducible refine (hb'.out _ (h'.out.below (below_drew (Below.refl _ _)))).mono ?_); rintro e w2 ⟨rfl, h2, k2⟩) | fail)
          go_ret
          exact ⟨rfl, ⟨_, h2⟩, (Fy.refl _ _).drew.trans k2⟩
        | true =>
          go_upto_region 9 with (first | (go_at_call 63; (with_reducible refine (hb'.out _ (h'.out.below (below_drew (Below.refl _ _)))).mono ?_); rintro e w2 ⟨rfl, h2, k2⟩; have h2' := Aside0.mk h2; have k2' : Aside0 (Fy ok w w2) := ⟨(Fy.refl _ _).drew.trans k2⟩; clear h2 k2) | fail)
          have hBn : nd B.L := by rw [hBL'.out]; exact hn'.out.nd
          have hfd : Aside0 (Calls Try.prog 64 #[.pointer (some ⟨p, 0, none⟩), .int .i64 n] w2 fun e w' => w2 = w' ∧ ∃ F : Int, e = .returned (.int .i64 F) ∧ Aside0 ((F = -1 ∧ mlook R.L n = none) ∨ ∃ (i : Nat) (s : Sg), F = (i : Int) ∧ R.L[i]? = some (n, s))) := ⟨(rfind_calls B n (by rw [hBL'.out]; exact hl'.out) v ok p w2 h2'.out).mono (by
            rw [hBL'.out]
            rintro e w' ⟨rfl, ⟨hx1, rfl⟩ | ⟨i, s, hs, rfl⟩⟩
            · exact ⟨rfl, -1, rfl, ⟨.inl ⟨rfl, hx1⟩⟩⟩
            · exact ⟨rfl, _, rfl, ⟨.inr ⟨i, s, rfl, hs⟩⟩⟩)⟩
          clear hBn c1 c3 hU hwd
          go_upto_if 36 with (first | (go_at_call 64; (with_reducible refine hfd.out.mono ?_); rintro e w' ⟨rfl, F, rfl, hF⟩) | fail)
          go_cut [7] (fun v7 wx => ∃ (i : Nat) (L1 : Sgs) (v1 : Value), v7 = .int .i64 (i : Int) ∧ Aside0 (RAt ok wx p (B.withL L1) v1) ∧ Aside0 (L1[i]? = some (n, sg R.L n)) ∧ Aside0 (nd L1) ∧ Aside0 (∀ u, mput L1 n u = rput R.L n u) ∧ Aside0 (Fy ok w wx) ∧ Aside0 (L1.length ≤ 100001))
          case first =>
            rcases hF.out with ⟨rfl, hx⟩ | ⟨i, s, rfl, hs⟩
            · obtain ⟨Av, cap, rfl, hcap⟩ := h2'.out.form
              rw [hBL'.out] at hcap
              have hx' := Aside0.mk hx
              clear hx hF
              obtain ⟨d0, d1, d2, d3⟩ := h2'.out.cells
              rw [hBL'.out] at d0
              clear d1 d2 d3
              go_upto_block 1 with fail
              go_cut [7] (fun v7 wx => wx = w2 ∧ ∃ (i : Nat), v7 = .int .i64 (i : Int) ∧ Aside0 (i ≤ R.L.length) ∧ Aside0 (∀ (j : Nat) (q : Int × Sg), j < i → R.L[j]? = some q → q.1 < n) ∧ Aside0 (∀ q, R.L[i]? = some q → ¬ (q.1 < n)))
              case first =>
                go_wp2_with fail
                go_loopg [7] (R.L.length + 1) (fun kq v7 w' => ∃ (i : Nat), v7 = .int .i64 (i : Int) ∧ Aside0 (kq + i = R.L.length + 1) ∧ Aside0 (i ≤ R.L.length) ∧ Aside0 (∀ (j : Nat) (q : Int × Sg), j < i → R.L[j]? = some q → q.1 < n) ∧ w' = w2)
                case atStart => exact ⟨0, rfl, ⟨by omega⟩, ⟨by omega⟩, ⟨fun j q hj => absurd hj (by omega)⟩, rfl⟩
                case round =>
                  obtain ⟨i, rfl, hk, hi, hnf, rfl⟩ := hrel
                  by_cases hlt : i < R.L.length
                  · have hd : decide ((i : Int) < (R.L.length : Int)) = true := decide_eq_true (by omega)
                    have hd' : decide (i < R.L.length) = true := decide_eq_true hlt
                    cases gk with
                    | zero => exact absurd hk.out (by omega)
                    | succ k1 =>
                      have hlt' := Aside0.mk hlt
                      obtain ⟨⟨qn, qs⟩, hq⟩ : ∃ q, R.L[i]? = some q := ⟨_, List.getElem?_eq_getElem hlt⟩
                      obtain ⟨g, A2, c2, e3, x0, _, _, _, _, _⟩ := h2'.out.elem (by rw [hBL'.out]; exact hq)
                      subst e3
                      have hq' := Aside0.mk hq
                      simp only [] at x0
                      clear hq
                      by_cases e1 : qn < n
                      · have e1' : decide (qn < n) = true := decide_eq_true e1
                        have e1'' := Aside0.mk e1
                        clear e1
                        go_wp2_with fail
                        go_roundg k1
                        case measure => have := hk.out; omega
                        case rel => exact ⟨i + 1, by have := hl'.out; have := hlt'.out; congr 1; unfold wrap64; omega, ⟨by have := hk.out; omega⟩, ⟨by have := hlt'.out; omega⟩, ⟨fun j q hj hq => by
                            by_cases hji : j = i
                            · subst hji
                              rw [hq'.out] at hq
                              cases hq
                              exact e1''.out
                            · exact hnf.out j q (by omega) hq⟩, rfl⟩
                      · have e1' : decide (qn < n) = false := decide_eq_false e1
                        have e1'' := Aside0.mk e1
                        clear e1
                        go_wp2_with fail
                        go_meet
                        exact ⟨rfl, i, rfl, hi, hnf, ⟨fun q hq => by rw [hq'.out] at hq; cases hq; exact e1''.out⟩⟩
                  · have hd : decide ((i : Int) < (R.L.length : Int)) = false := decide_eq_false (by omega)
                    have hd' : decide (i < R.L.length) = false := decide_eq_false hlt
                    have hlt' := Aside0.mk hlt
                    clear hlt
                    go_wp2_with fail
                    go_meet
                    exact ⟨rfl, i, rfl, hi, hnf, ⟨fun q hq => absurd (List.getElem?_eq_some_iff.1 hq).1 hlt'.out⟩⟩
              case rest =>
                obtain ⟨rfl, i, rfl, hi, hnf, hge⟩ := hcut
                have hlen := Aside0.mk hl'.out
                have hrow := h2'.out.row
                rw [hBL'.out] at hrow
                have hq0 := Kd.Q_mono (Kd.Q_bound (Kd.Q_of_R hrow)) (ok' := fun k => (ok k ∧ k ≠ p) ∧ k < wc.heap.size) (fun k hk => ⟨hk.1, hk.2.2.1⟩)
                obtain ⟨hcut1, hcut2, hqt, A3, c3, hcut3, hqd⟩ := cutsI hq0 hi.out
                have hqt' := Aside0.mk hqt
                have hqd' := Aside0.mk hqd
                have hp1 : p < wc.heap.size := blk_lt h2'.out.blk
                have f0 := blk_frozen h2'.out.blk 0
                have hok1' : Aside0 (∀ k, wc.heap.size ≤ k → ok k ∧ k ≠ p) := ⟨fun k hk => ⟨hok'.out k (Nat.le_trans k2'.out.size hk), by omega⟩⟩
                have htl : Aside0 ((R.L.take i).length = i) := ⟨by rw [List.length_take]; have := hi.out; omega⟩
                have hput : Aside0 (R.L.take i ++ [(n, ([], 0))] ++ R.L.drop i = rput R.L n ([], 0)) := ⟨(rput_at hx'.out hn'.out ([], 0) i hi.out hnf.out hge.out).symm⟩
                clear hrow hq0 hqt hqd
                go_wp2_with (first
                  | ((with_reducible refine gate_builtin (b := .append) (xs := #[.tmp 58, .tmp 64]) rfl ?_); at_builtin
                     refine Kd.R_append_rows kSeg (w0 := wc) 0 rfl (.tmp 58) (.tmp 64) 69 81 (.agg #[.int .i64 0, .slice none 0 0, .int .i64 0]) 40 rfl Try.underlying69 info81 rfl (by decide) (by decide) (.slice none 0 0) [] (R.L.take i) Av i cap (fun k => ok k ∧ k ≠ p) (fun k => (ok k ∧ k ≠ p) ∧ k < wc.heap.size) rfl rfl (Kd.R_nil _ _ _ _ _) (Q_rows hqt'.out) (fun _ _ hx => hx) (fun k hk => ⟨hk.1, by simp [Value.ownBlock]⟩) (fun k hk => hok1'.out k hk) (Below.refl _ _) (Nat.zero_le _) (by have := hlen.out; have := hi.out; simp; omega) ?_
                     intro v3 w3 hR3 _ hg3 hat3
                     rw [List.nil_append] at hR3
                     have hB3 : Aside0 (Below wc.heap.size wc w3) := ⟨(Below.refl _ _).grown hg3 (Nat.le_refl _) (fun k e => by simp [Value.ownBlock] at e)⟩
                     have hfr3 : Aside0 (∀ k, v3.ownBlock = some k → wc.heap.size ≤ k) := ⟨fun k e => by
                       rcases hat3 with e1 | ⟨b, e1, hb⟩
                       · rw [e1] at e; simp [Value.ownBlock] at e
                       · rw [e1] at e; cases e; exact hb⟩
                     have hR3' := Aside0.mk hR3
                     have hs3 : wc.heap.size ≤ w3.heap.size := hB3.out.size
                     clear hR3 hg3 hat3)
                  | ((with_reducible refine gate_builtin (b := .append) (xs := #[.tmp 66, .tmp 69]) rfl ?_); at_builtin
                     refine Kd.R_append kSeg (w0 := w3) 0 rfl (.tmp 66) (.tmp 69) 69 81 (.agg #[.int .i64 0, .slice none 0 0, .int .i64 0]) 40 rfl Try.underlying69 info81 rfl (by decide) (by decide) v3 (R.L.take i) (n, ([], 0)) [.int .i64 n, .slice none 0 0, .int .i64 0] (fun k => ok k ∧ k ≠ p) (fun _ => False) rfl rfl (kSeg_mk (x := (n, ([], 0))) (Kd.R_nil _ _ _ _ _)) (fun _ hk => hk.elim) (fun k hk => hok1'.out k (by omega)) hR3'.out (Below.refl _ _) (Nat.zero_le _) (by rw [htl.out]; have := hlen.out; have := hi.out; omega) ?_
                     intro v4 w4 hR4 _ hg4 hat4
                     have hB4 : Aside0 (Below wc.heap.size wc w4) := ⟨hB3.out.grown hg4 (by omega) (fun k e => hfr3.out k e)⟩
                     have hfr4 : Aside0 (∀ k, v4.ownBlock = some k → wc.heap.size ≤ k) := ⟨fun k e => by
                       rcases hat4 with e1 | ⟨b, e1, hb⟩
                       · rw [e1] at e; exact hfr3.out k e
                       · rw [e1] at e; cases e; omega⟩
                     have hR4' := Aside0.mk hR4
                     have y0 : w4.cell? ⟨p, 0, none⟩ = some (.slice Av R.L.length cap) := keepx d0 hB4.out
                     have hs4 : wc.heap.size ≤ w4.heap.size := hB4.out.size
                     clear hR4 hg4 hat4)
                  | ((with_reducible refine gate_builtin (b := .append) (xs := #[.tmp 72, .tmp 78]) rfl ?_); at_builtin
                     refine Kd.R_append_rows kSeg (w0 := w4) 0 rfl (.tmp 72) (.tmp 78) 69 81 (.agg #[.int .i64 0, .slice none 0 0, .int .i64 0]) 40 rfl Try.underlying69 info81 rfl (by decide) (by decide) v4 (R.L.take i ++ [(n, ([], 0))]) (R.L.drop i) A3 (R.L.length - i) c3 (fun k => ok k ∧ k ≠ p) (fun k => (ok k ∧ k ≠ p) ∧ k < wc.heap.size) rfl rfl hR4'.out (Q_rows (Kd.Q_below hqd'.out hB4.out)) (fun _ _ hx => hx) (fun k hk => ⟨hk.1, fun e => by have := hfr4.out k e.symm; omega⟩) (fun k hk => hok1'.out k (by omega)) (Below.refl _ _) (Nat.zero_le _) (by rw [List.length_append, htl.out]; have := hlen.out; have := hi.out; simp; omega) ?_
                     intro v5 w5 hR5 _ hg5 _
                     have hB5 : Aside0 (Below wc.heap.size wc w5) := ⟨hB4.out.grown hg5 (by omega) (fun k e => hfr4.out k e)⟩
                     rw [hput.out] at hR5
                     obtain ⟨A5, c5, e5⟩ := Kd.R_slice hR5
                     subst e5
                     have hfin := Aside0.mk (h2'.out.newRow (R' := B.withL (rput R.L n ([], 0))) hB5.out hR5 rfl rfl)
                     have z0 : w5.cell? ⟨p, 0, none⟩ = some (.slice Av R.L.length cap) := keepx d0 hB5.out
                     have f5 : w5.frozen? ⟨p, 0, none⟩ = false := (hB5.out.frozen (p := ⟨p, 0, none⟩) hp1).trans f0
                     clear hR5 hg5)
                  | fail)
                go_meet
                have hxx := hx'.out
                refine ⟨i, rput R.L n ([], 0), _, rfl, ⟨hfin.out.1⟩, ⟨?_⟩, ⟨(rput_rises hn'.out n _).nd⟩, ⟨fun u => put_rput hn'.out hxx _ u⟩, ⟨k2'.out.trans hfin.out.2⟩, ⟨?_⟩⟩
                · rw [← hput.out, show sg R.L n = ([], 0) by unfold sg; rw [hxx]; rfl, List.append_assoc, List.getElem?_append_right (by rw [htl.out]; exact Nat.le_refl _), htl.out]
                  simp
                · rw [← hput.out]
                  have := hlen.out
                  have := hi.out
                  simp
                  omega
            · have n1 : ¬ ((i : Int) < 0) := by omega
              have hxx := at_look hn'.out.nd hs
              have hs' := Aside0.mk hs
              clear hs hF
              go_wp2_with fail
              go_meet
              exact ⟨i, R.L, v, rfl, ⟨by have h9 := h2'.out; exact ⟨h9.pk, h9.blk, by have h8 := h9.row; rw [hBL'.out] at h8; exact h8⟩⟩, ⟨by rw [sg_some hxx]; exact hs'.out⟩, ⟨hn'.out.nd⟩, ⟨fun u => (rput_old hn'.out hxx u).symm⟩, k2', ⟨by have := hl'.out; omega⟩⟩
          case rest =>
            obtain ⟨i, L1, v1, rfl, h3, hi3, hn3, hp3, k3, hl3⟩ := hcut
            obtain ⟨Av, cap, rfl, hcap⟩ := h3.out.form
            obtain ⟨g, A2, c2, e3, x0, x1, _, f1, _, hrow⟩ := h3.out.elem hi3.out
            subst e3
            have hlt : i < L1.length := (List.getElem?_eq_some_iff.1 hi3.out).1
            have p1 : 0 ≤ (i : Int) := by omega
            have q1 : (i : Int) < (L1.length : Int) := by omega
            obtain ⟨y0, _, _, _⟩ := h3.out.cells
            have hp1 : p < wc.heap.size := blk_lt h3.out.blk
            have hg1 : g < wc.heap.size := World.block_lt_of_cell? wc _ x0
            obtain ⟨⟨q, sy⟩, hqs⟩ : ∃ z, sg R.L n = z := ⟨_, rfl⟩
            rw [hqs] at x1 hrow hi3 hus
            simp only [] at x1 hrow hus
            have hqs' := Aside0.mk hqs
            have hq1' := Aside0.mk (Kd.Q_mono (Kd.Q_bound (Kd.Q_of_R hrow)) (ok' := fun k => ((ok k ∧ k ≠ p) ∧ k ≠ g) ∧ k < wc.heap.size) (fun k hk => ⟨hk.1, hk.2.2.1⟩))
            have hok1' : Aside0 (∀ k, wc.heap.size ≤ k → (ok k ∧ k ≠ p) ∧ k ≠ g) := ⟨fun k hk => ⟨⟨hok'.out k (Nat.le_trans k3.out.size hk), by omega⟩, by omega⟩⟩
            have f1' := Aside0.mk f1
            have y0' := Aside0.mk y0
            have x1' := Aside0.mk x1
            have hlt' := Aside0.mk hlt
            clear hqs hrow x0 f1 hlt hfd
            go_upto_region 18 with fail
            go_cut [6] (fun v6 wx => v6 = v6 ∧ Aside0 (IsR ok wx p (B.withL (rput R.L n (q ++ L, sy)))) ∧ Aside0 (Fy ok wc wx))
            case first =>
              refine start_ (n := 20) (S := fun w' => w'.cell? ⟨p, 0, none⟩ = some (.slice (some ⟨g, 0, none⟩) L1.length cap) ∧ w'.cell? ⟨g, i * 3 + 1, none⟩ = some (.slice A2 q.length c2)) (ds := [19]) #[false, false, false, false, false, false, false, false, false, false, false, false, false, false, false, false, false, false, false, false] (by kernel_rfl) rfl rfl ⟨y0, x1⟩ (fun hHeld => ?_)
              refine pure_ (i := 0) (N := (some 82)) (v := ?_) (a' := ?_) #[true, false, false, false, false, false, false, false, false, false, false, false, false, false, false, false, false, false, false, false] rfl rfl (by kernel_rfl) (fun _ _ _ h => h) (Or.inl ⟨by rfl, ?_⟩) ?_ ?_
              rotate_left
              · intro w'
                go_simp
                with_reducible rfl
              rotate_left
              · simp only [Act.put, List.setIfInBounds_toArray, List.set_cons_zero, List.set_cons_succ, i64_w, i32_w]
                rfl
              refine pure_ (i := 1) (N := (some 83)) (v := ?_) (a' := ?_) #[true, true, false, false, false, false, false, false, false, false, false, false, false, false, false, false, false, false, false, false] rfl rfl (by kernel_rfl) (fun _ _ _ h => h) (Or.inl ⟨by rfl, ?_⟩) ?_ ?_
              rotate_left
              · intro w'
                go_simp
                with_reducible rfl
              rotate_left
              · simp only [Act.put, List.setIfInBounds_toArray, List.set_cons_zero, List.set_cons_succ, i64_w, i32_w]
                rfl
              refine pure_ (i := 2) (N := (some 84)) (v := ?_) (a' := ?_) #[true, true, true, false, false, false, false, false, false, false, false, false, false, false, false, false, false, false, false, false] rfl rfl (by kernel_rfl) (fun _ _ _ h => h) (Or.inl ⟨by rfl, ?_⟩) ?_ ?_
              rotate_left
              · intro w'
                go_simp
                with_reducible rfl
              rotate_left
              · simp only [Act.put, List.setIfInBounds_toArray, List.set_cons_zero, List.set_cons_succ, i64_w, i32_w]
                rfl
              refine take_ (i := 3) (N := (some 85)) (v := ?_) (a' := ?_) #[true, true, true, true, false, false, false, false, false, false, false, false, false, false, false, false, false, false, false, false] rfl rfl (by kernel_rfl) (fun _ _ _ h => h) (Or.inl ⟨by rfl, ?_⟩) hHeld ?_ ?_
              rotate_left
              · rintro w' ⟨s0, s1⟩
                go_simp
                with_reducible rfl
              rotate_left
              · simp only [Act.put, List.setIfInBounds_toArray, List.set_cons_zero, List.set_cons_succ, i64_w, i32_w]
                rfl
              refine pure_ (i := 4) (N := (some 86)) (v := ?_) (a' := ?_) #[true, true, true, true, true, false, false, false, false, false, false, false, false, false, false, false, false, false, false, false] rfl rfl (by kernel_rfl) (fun _ _ _ h => h) (Or.inl ⟨by rfl, ?_⟩) ?_ ?_
              rotate_left
              · intro w'
                go_simp
                with_reducible rfl
              rotate_left
              · simp only [Act.put, List.setIfInBounds_toArray, List.set_cons_zero, List.set_cons_succ, i64_w, i32_w]
                rfl
              refine pure_ (i := 6) (N := (some 88)) (v := ?_) (a' := ?_) #[true, true, true, true, true, false, true, false, false, false, false, false, false, false, false, false, false, false, false, false] rfl rfl (by kernel_rfl) (fun _ _ _ h => h) (Or.inl ⟨by rfl, ?_⟩) ?_ ?_
              rotate_left
              · intro w'
                go_simp
                with_reducible rfl
              rotate_left
              · simp only [Act.put, List.setIfInBounds_toArray, List.set_cons_zero, List.set_cons_succ, i64_w, i32_w]
                rfl
              refine pure_ (i := 7) (N := (some 89)) (v := ?_) (a' := ?_) #[true, true, true, true, true, false, true, true, false, false, false, false, false, false, false, false, false, false, false, false] rfl rfl (by kernel_rfl) (fun _ _ _ h => h) (Or.inl ⟨by rfl, ?_⟩) ?_ ?_
              rotate_left
              · intro w'
                go_simp
                with_reducible rfl
              rotate_left
              · simp only [Act.put, List.setIfInBounds_toArray, List.set_cons_zero, List.set_cons_succ, i64_w, i32_w]
                rfl
              refine pure_ (i := 8) (N := (some 90)) (v := ?_) (a' := ?_) #[true, true, true, true, true, false, true, true, true, false, false, false, false, false, false, false, false, false, false, false] rfl rfl (by kernel_rfl) (fun _ _ _ h => h) (Or.inl ⟨by rfl, ?_⟩) ?_ ?_
              rotate_left
              · intro w'
                go_simp
                with_reducible rfl
              rotate_left
              · simp only [Act.put, List.setIfInBounds_toArray, List.set_cons_zero, List.set_cons_succ, i64_w, i32_w]
                rfl
              refine take_ (i := 9) (N := (some 91)) (v := ?_) (a' := ?_) #[true, true, true, true, true, false, true, true, true, true, false, false, false, false, false, false, false, false, false, false] rfl rfl (by kernel_rfl) (fun _ _ _ h => h) (Or.inl ⟨by rfl, ?_⟩) hHeld ?_ ?_
              rotate_left
              · rintro w' ⟨s0, s1⟩
                go_simp
                with_reducible rfl
              rotate_left
              · simp only [Act.put, List.setIfInBounds_toArray, List.set_cons_zero, List.set_cons_succ, i64_w, i32_w]
                rfl
              refine pure_ (i := 10) (N := (some 92)) (v := ?_) (a' := ?_) #[true, true, true, true, true, false, true, true, true, true, true, false, false, false, false, false, false, false, false, false] rfl rfl (by kernel_rfl) (fun _ _ _ h => h) (Or.inl ⟨by rfl, ?_⟩) ?_ ?_
              rotate_left
              · intro w'
                go_simp
                with_reducible rfl
              rotate_left
              · simp only [Act.put, List.setIfInBounds_toArray, List.set_cons_zero, List.set_cons_succ, i64_w, i32_w]
                rfl
              refine pure_ (i := 11) (N := (some 93)) (v := ?_) (a' := ?_) #[true, true, true, true, true, false, true, true, true, true, true, true, false, false, false, false, false, false, false, false] rfl rfl (by kernel_rfl) (fun _ _ _ h => h) (Or.inl ⟨by rfl, ?_⟩) ?_ ?_
              rotate_left
              · intro w'
                go_simp
                with_reducible rfl
              rotate_left
              · simp only [Act.put, List.setIfInBounds_toArray, List.set_cons_zero, List.set_cons_succ, i64_w, i32_w]
                rfl
              refine pure_ (i := 12) (N := (some 94)) (v := ?_) (a' := ?_) #[true, true, true, true, true, false, true, true, true, true, true, true, true, false, false, false, false, false, false, false] rfl rfl (by kernel_rfl) (fun _ _ _ h => h) (Or.inl ⟨by rfl, ?_⟩) ?_ ?_
              rotate_left
              · intro w'
                go_simp
                with_reducible rfl
              rotate_left
              · simp only [Act.put, List.setIfInBounds_toArray, List.set_cons_zero, List.set_cons_succ, i64_w, i32_w]
                rfl
              refine take_ (i := 13) (N := (some 95)) (v := ?_) (a' := ?_) #[true, true, true, true, true, false, true, true, true, true, true, true, true, true, false, false, false, false, false, false] rfl rfl (by kernel_rfl) (fun _ _ _ h => h) (Or.inl ⟨by rfl, ?_⟩) hHeld ?_ ?_
              rotate_left
              · rintro w' ⟨s0, s1⟩
                go_simp
                with_reducible rfl
              rotate_left
              · simp only [Act.put, List.setIfInBounds_toArray, List.set_cons_zero, List.set_cons_succ, i64_w, i32_w]
                rfl
              refine pure_ (i := 15) (N := (some 97)) (v := ?_) (a' := ?_) #[true, true, true, true, true, false, true, true, true, true, true, true, true, true, false, true, false, false, false, false] rfl rfl (by kernel_rfl) (fun _ _ _ h => h) (Or.inl ⟨by rfl, ?_⟩) ?_ ?_
              rotate_left
              · intro w'
                go_simp
                with_reducible rfl
              rotate_left
              · simp only [Act.put, List.setIfInBounds_toArray, List.set_cons_zero, List.set_cons_succ, i64_w, i32_w]
                rfl
              refine one_ (i := 5) (N := (some 87)) #[true, true, true, true, true, true, true, true, true, true, true, true, true, true, false, true, false, false, false, false] rfl rfl (by kernel_rfl) (by decide) (fun K hK => ?_)
              go_simp
              refine hK.out _ _ ⟨keepx y0 (by repeat (first | (with_reducible exact Below.refl _ _) | (with_reducible exact hB3.out) | (with_reducible exact hB4.out) | (with_reducible refine below_drew ?_) | (with_reducible refine below_alloc ?_ _))), keepx x1 (by repeat (first | (with_reducible exact Below.refl _ _) | (with_reducible exact hB3.out) | (with_reducible exact hB4.out) | (with_reducible refine below_drew ?_) | (with_reducible refine below_alloc ?_ _)))⟩ (fun hHeld => ?_)
              clear hK K
              refine one_ (i := 14) (N := (some 96)) #[true, true, true, true, true, true, true, true, true, true, true, true, true, true, true, true, false, false, false, false] rfl rfl (by kernel_rfl) (by decide) (fun K hK => ?_)
              refine Kd.R_append_rows_step (Kd.int .u8) (w0 := wc) 0 (by rfl) (.tmp 87) (.tmp 95) 30 5 (.int .u8 0) 1 (by rfl) Try.underlying30 info5' rfl (by decide) (by decide) _ [] q A2 q.length c2 (fun k => (ok k ∧ k ≠ p) ∧ k ≠ g) (fun k => ((ok k ∧ k ≠ p) ∧ k ≠ g) ∧ k < wc.heap.size) (by rfl) (by rfl) (R_mtk (Kd.int .u8) (by repeat (first | (with_reducible exact blk_new_at (by simp)) | (with_reducible refine blk_alloc ?_ _) | (with_reducible refine blk_drew ?_))) (Nat.zero_le _) (hok1'.out _ (by first | omega | (simp; omega)))) (Q_rows (Kd.Q_below hq1'.out (by repeat (first | (with_reducible exact Below.refl _ _) | (with_reducible exact hB3.out) | (with_reducible exact hB4.out) | (with_reducible refine below_drew ?_) | (with_reducible refine below_alloc ?_ _))))) (fun _ _ hx => hx) (fun k hk => ⟨hk.1, by simp [Value.ownBlock]; omega⟩) (fun k hk => hok1'.out k (by simp at hk; omega)) (below0 (by repeat (first | (with_reducible exact Below.refl _ _) | (with_reducible exact hB3.out) | (with_reducible exact hB4.out) | (with_reducible refine below_drew ?_) | (with_reducible refine below_alloc ?_ _)))) (Nat.zero_le _) (by have := hus.out; have := hu'.out; simp; omega) ?_
              intro v3 w3 hR3 _ hg3 hat3
              rw [List.nil_append] at hR3
              have hB3 : Aside0 (Below wc.heap.size wc w3) := ⟨pw_below_grown (by repeat (first | (with_reducible exact Below.refl _ _) | (with_reducible exact hB3.out) | (with_reducible exact hB4.out) | (with_reducible refine below_drew ?_) | (with_reducible refine below_alloc ?_ _))) _ (by simp <;> omega) hg3 (fun k e => by simp [Value.ownBlock] at e; omega)⟩
              have hfr3 : Aside0 (∀ k, v3.ownBlock = some k → wc.heap.size ≤ k) := ⟨fun k e => by
                rcases hat3 with e1 | ⟨b, e1, hb⟩
                · rw [e1] at e; simp [Value.ownBlock] at e; omega
                · rw [e1] at e; cases e; simp at hb; omega⟩
              have hR3' := Aside0.mk hR3
              have hs3 : wc.heap.size ≤ w3.heap.size := hB3.out.size
              refine hK.out _ _ ⟨keepx y0 (by repeat (first | (with_reducible exact Below.refl _ _) | (with_reducible exact hB3.out) | (with_reducible exact hB4.out) | (with_reducible refine below_drew ?_) | (with_reducible refine below_alloc ?_ _))), keepx x1 (by repeat (first | (with_reducible exact Below.refl _ _) | (with_reducible exact hB3.out) | (with_reducible exact hB4.out) | (with_reducible refine below_drew ?_) | (with_reducible refine below_alloc ?_ _)))⟩ (fun hHeld => ?_)
              clear hK K
              clear hR3 hg3 hat3
              refine norm_ (a' := Act.put _ (some 96) v3) (by rfl) ?_
              refine one_ (i := 16) (N := (some 98)) #[true, true, true, true, true, true, true, true, true, true, true, true, true, true, true, true, true, false, false, false] rfl rfl (by kernel_rfl) (by decide) (fun K hK => ?_)
              refine Kd.R_append_rows_step (Kd.int .u8) (Rr := (Kd.int .u8).K w3) (w0 := w3) 0 (by rfl) (.tmp 96) (.tmp 97) 30 5 (.int .u8 0) 1 (by rfl) Try.underlying30 info5' rfl (by decide) (by decide) v3 q L A L.length cp (fun k => (ok k ∧ k ≠ p) ∧ k ≠ g) (fun _ => False) (by rfl) (by rfl) hR3'.out (hcc'.out w3 (k3.out.trans (Fy.of_below hB3.out))) (fun _ _ hx => hx) (fun _ hk => hk.elim) (fun k hk => hok1'.out k (by omega)) (Below.refl _ _) (Nat.zero_le _) (by have := hus.out; have := hu'.out; have := hL'.out; omega) ?_
              intro v5 w5 hR5 _ hg5 _
              have hB4 : Aside0 (Below wc.heap.size wc w5) := ⟨pw_below_grown hB3.out _ (by omega) hg5 (fun k e => hfr3.out k e)⟩
              obtain ⟨A5, c5, e5⟩ := Kd.R_slice hR5
              rw [List.length_append] at e5
              subst e5
              have hfin := Aside0.mk (h3.out.setRow (R' := B.withL (rput R.L n (q ++ L, sy))) hn3.out hi3.out hB4.out hR5 (hp3.out _).symm rfl)
              have f5 := (hB4.out.frozen (p := ⟨g, i * 3 + 1, none⟩) hg1).trans f1'.out
              clear hR5 hg5
              refine hK.out _ _ ⟨keepx y0 (by repeat (first | (with_reducible exact Below.refl _ _) | (with_reducible exact hB3.out) | (with_reducible exact hB4.out) | (with_reducible refine below_drew ?_) | (with_reducible refine below_alloc ?_ _))), keepx x1 (by repeat (first | (with_reducible exact Below.refl _ _) | (with_reducible exact hB3.out) | (with_reducible exact hB4.out) | (with_reducible refine below_drew ?_) | (with_reducible refine below_alloc ?_ _)))⟩ (fun hHeld => ?_)
              clear hK K
              refine pure_ (i := 17) (N := (some 99)) (v := ?_) (a' := ?_) #[true, true, true, true, true, true, true, true, true, true, true, true, true, true, true, true, true, true, false, false] rfl rfl (by kernel_rfl) (fun _ _ _ h => h) (Or.inl ⟨by rfl, ?_⟩) ?_ ?_
              rotate_left
              · intro w'
                go_simp
                with_reducible rfl
              rotate_left
              · simp only [Act.put, List.setIfInBounds_toArray, List.set_cons_zero, List.set_cons_succ, i64_w, i32_w]
                rfl
              refine pure_ (i := 18) (N := (some 100)) (v := ?_) (a' := ?_) #[true, true, true, true, true, true, true, true, true, true, true, true, true, true, true, true, true, true, true, false] rfl rfl (by kernel_rfl) (fun _ _ _ h => h) (Or.inl ⟨by rfl, ?_⟩) ?_ ?_
              rotate_left
              · intro w'
                go_simp
                with_reducible rfl
              rotate_left
              · simp only [Act.put, List.setIfInBounds_toArray, List.set_cons_zero, List.set_cons_succ, i64_w, i32_w]
                rfl
              refine last_ (i := 19) (N := none) #[true, true, true, true, true, true, true, true, true, true, true, true, true, true, true, true, true, true, true, true] rfl rfl (by kernel_rfl) (by decide) (fun K hK => ?_)
              obtain ⟨-, s0⟩ := hHeld
              go_simp
              refine hK.out _ _ ?_
              clear hK K
              refine done_ (by kernel_rfl) ?_
              go_wp2_with fail
              go_meet
              exact ⟨trivial, ⟨⟨_, hfin.out.1⟩⟩, ⟨hfin.out.2⟩⟩
            case rest =>
              obtain ⟨_, h5, h6⟩ := hcut
              go_wp2_with fail
              go_ret
              rw [hqs'.out]
              exact ⟨rfl, h5.out, k3.out.trans h6.out⟩
end
end Go.Proofs.Ytnplnelhodnonaa.Dsk
