/- The document's disk: Sync, Spoil, walked. -/
import Derived.Test.YtnplnelhodnonaaDkRef2
namespace Go.Proofs.Ytnplnelhodnonaa.Dsk
open Go.RowKit Go.Proofs.YtnplnelhodnonaaW.PrintWords Go.Proofs.YtnplnelhodnonaaW.PrintLast Go.Proofs.YtnplnelhodnonaaW.PrintMore
open Amap Frm
set_option linter.unusedVariables false
set_option linter.unusedSimpArgs false
set_option linter.unusedSectionVars false
theorem rfind_at {R : RSt} {n : Int} (hl : R.L.length ≤ 100000) (hn : nd R.L) {v : Value} {ok : Nat → Prop} {p : Nat} {w : World} (h : RAt ok w p R v) {s0 : Sg} (hx : mlook R.L n = some s0) : Calls Try.prog 64 #[.pointer (some ⟨p, 0, none⟩), .int .i64 n] w fun e w' => w = w' ∧ ∃ i : Nat, R.L[i]? = some (n, s0) ∧ e = .returned (.int .i64 (i : Int)) :=
  (rfind_calls R n hl v ok p w h).mono (by
    rintro e w' ⟨rfl, ⟨h1, rfl⟩ | ⟨i, s, hs, rfl⟩⟩
    · rw [hx] at h1; cases h1
    · have h1 := at_look hn hs
      rw [hx] at h1
      cases h1
      exact ⟨rfl, i, hs, rfl⟩)
theorem rfind_no {R : RSt} {n : Int} (hl : R.L.length ≤ 100000) (hn : nd R.L) {v : Value} {ok : Nat → Prop} {p : Nat} {w : World} (h : RAt ok w p R v) (hx : mlook R.L n = none) : Calls Try.prog 64 #[.pointer (some ⟨p, 0, none⟩), .int .i64 n] w fun e w' => w = w' ∧ e = .returned (.int .i64 (-1)) :=
  (rfind_calls R n hl v ok p w h).mono (by
    rintro e w' ⟨rfl, ⟨h1, rfl⟩ | ⟨i, s, hs, rfl⟩⟩
    · exact ⟨rfl, rfl⟩
    · have h1 := at_look hn hs
      rw [hx] at h1
      cases h1)
theorem rburn_fields (R : RSt) : (rburn R).1.L = R.L := rburn_L R
section
variable (R : RSt) (n : Int) (hl : R.L.length ≤ 100000) (hu : used R.L ≤ 100000000) (hn : nd R.L) (hf : R.fuse ≤ 9223372036854775807) (ok : Nat → Prop) (p : Nat) (w : World) (hok : ∀ k, w.heap.size ≤ k → ok k) (h : IsR ok w p R)
include hl hu hn hf hok h
set_option maxHeartbeats 4000000 in
set_option maxRecDepth 100000 in
theorem RSync_calls : Calls Try.prog 42 #[.pointer (some ⟨p, 0, none⟩), .int .i64 n] w fun e w' => e = .returned (.int .i64 (rsync R n).2) ∧ IsR ok w' p (rsync R n).1 ∧ Fy ok w w' := by
  obtain ⟨v, h⟩ := h
  obtain ⟨c0, c1, c2, c3⟩ := h.cells
  have h' := Aside0.mk h
  cases hd : R.dead with
  | true =>
    have e : rsync R n = (R, 8) := by unfold rsync; rw [rfind_dead hd, if_neg (by decide)]
    have hfd := Aside0.mk (rfind_calls R n hl v ok p w h)
    rw [e]
    rw [hd] at c3
    clear e h hd hn hu hok hl c0 c1 c2 hf
    go_enter Try.func42, Try.ntmps42
    go_wp2_with (first | (go_at_call 64; (with_reducible refine hfd.out.mono ?_); rintro e w' ⟨rfl, ⟨_, rfl⟩ | ⟨i, s, _, rfl⟩⟩) | fail)
    all_goals
      go_ret
      exact ⟨rfl, ⟨_, h'.out⟩, Fy.refl _ _⟩
  | false =>
    rw [hd] at c3
    cases hx : mlook R.L n with
    | none =>
      have e : rsync R n = (R, 5) := by unfold rsync; rw [rfind_none hd hx, if_neg (by decide)]
      have hfd := Aside0.mk (rfind_no hl hn h hx)
      rw [e]
      clear e h hd hn hu hok hl c0 c1 c2 hx hf
      go_enter Try.func42, Try.ntmps42
      go_wp2_with (first | (go_at_call 64; (with_reducible refine hfd.out.mono ?_); rintro e w' ⟨rfl, rfl⟩) | fail)
      go_ret
      exact ⟨rfl, ⟨_, h'.out⟩, Fy.refl _ _⟩
    | some s0 =>
      have hfd := Aside0.mk (rfind_at hl hn h hx)
      have hb := rburn_calls R hf v ok p w h
      have hBL := rburn_L R
      obtain ⟨⟨B, y⟩, hB⟩ : ∃ r, rburn R = r := ⟨_, rfl⟩
      rw [hB] at hb hBL
      simp only [] at hb hBL
      have e : rsync R n = if y = true then (B.withL (mput R.L n (s0.1, s0.1.length)), 0) else (B, 8) := by unfold rsync; rw [rfind_some hd hx, if_pos rfl, hB, sg_some hx]
      rw [e]
      obtain ⟨A, cap, rfl, hcap⟩ := h.form
      have hBL' := Aside0.mk hBL
      have hn' := Aside0.mk hn
      clear e h hd hn hu hok hl hx hBL hf c0 c1 c2 hB
      cases y with
      | false =>
        go_enter Try.func42, Try.ntmps42
        go_wp2_with (first | (go_at_call 64; (with_reducible refine hfd.out.mono ?_); rintro e w' ⟨rfl, i, hs, rfl⟩; have hs' := Aside0.mk hs; clear hs; have n1 : ¬ ((i : Int) < 0) := by omega) | (go_at_call 63; (with_reducible refine hb.mono ?_); rintro e w2 ⟨rfl, h2, k2⟩) | fail)
        go_ret
        exact ⟨rfl, ⟨_, h2⟩, k2⟩
      | true =>
        go_enter Try.func42, Try.ntmps42
        go_upto_region 8 with (first | (go_at_call 64; (with_reducible refine hfd.out.mono ?_); rintro e w' ⟨rfl, i, hs, rfl⟩; have hs' := Aside0.mk hs; clear hs; have n1 : ¬ ((i : Int) < 0) := by omega) | (go_at_call 63; (with_reducible refine hb.mono ?_); rintro e w2 ⟨rfl, h2, k2⟩; have h2' := Aside0.mk h2; have k2' := Aside0.mk k2; clear h2 k2) | fail)
        have hsB : B.L[i]? = some (n, s0) := by rw [hBL'.out]; exact hs'.out
        obtain ⟨g, A2, c2, rfl, x0, x1, x2, f1, f2, hrow⟩ := h2'.out.elem hsB
        have hlt : i < R.L.length := (List.getElem?_eq_some_iff.1 hs'.out).1
        have p1 : 0 ≤ (i : Int) := by omega
        have q1 : (i : Int) < (R.L.length : Int) := by omega
        obtain ⟨d0, d1, d2, d3⟩ := h2'.out.cells
        have hset := Aside0.mk (h2'.out.setSync (R' := B.withL (mput R.L n (s0.1, s0.1.length))) (by rw [hBL'.out]; exact hn'.out) hsB s0.1.length (by rw [hBL'.out]; rfl) rfl)
        obtain ⟨sl, hsl⟩ : ∃ sl, s0.1.length = sl := ⟨_, rfl⟩
        rw [hsl] at x1 hset
        have hsl' := Aside0.mk hsl
        clear hsB hrow hlt hsl d1 d2 d3 x0
        go_still_tail 14, (by kernel_rfl)
        go_wp2_with fail
        go_ret
        rw [hsl'.out]
        refine ⟨rfl, ⟨_, (hset.out.1.below (below_drew (Below.refl _ _)))⟩, (k2'.out.trans hset.out.2).drew⟩
set_option maxHeartbeats 4000000 in
set_option maxRecDepth 100000 in
theorem RSpoil_calls (a y : Int) : Calls Try.prog 45 #[.pointer (some ⟨p, 0, none⟩), .int .i64 n, .int .i64 a, .int .u8 y] w fun e w' => e = .returned (.bool (rspoil R n a (xorB y)).2) ∧ IsR ok w' p (rspoil R n a (xorB y)).1 ∧ Fy ok w w' := by
  obtain ⟨v, h⟩ := h
  obtain ⟨c0, c1, c2, c3⟩ := h.cells
  have h' := Aside0.mk h
  cases hx : mlook R.L n with
  | none =>
    have e : rspoil R n a (xorB y) = (R, false) := by
      have : sg R.L n = ([], 0) := by unfold sg; rw [hx]; rfl
      unfold rspoil
      rw [this, if_neg (by simp)]
    have hfd := Aside0.mk (rfind_no hl hn h hx)
    rw [e]
    clear e h hn hu hok hl c1 c2 c3 hx hf
    go_enter Try.func45, Try.ntmps45
    go_wp2_with (first | (go_at_call 64; (with_reducible refine hfd.out.mono ?_); rintro e w' ⟨rfl, rfl⟩) | fail)
    go_ret
    exact ⟨rfl, ⟨_, h'.out⟩, Fy.refl _ _⟩
  | some s0 =>
    have hfd := Aside0.mk (rfind_at hl hn h hx)
    obtain ⟨A, cap, rfl, hcap⟩ := h.form
    have hsg := sg_some hx
    have hn' := Aside0.mk hn
    have hok' := Aside0.mk hok
    have hsl : Aside0 (s0.1.length ≤ 100000000) := ⟨by
      have := used_mem (look_mem hx)
      simp only [] at this
      omega⟩
    by_cases h0 : a < 0
    · have e : rspoil R n a (xorB y) = (R, false) := by
        unfold rspoil
        rw [if_neg (by omega)]
      rw [e]
      have d0 : decide (a < 0) = true := decide_eq_true h0
      clear e h hn hu hok hl c1 c2 c3 hx hf hsg h0
      go_enter Try.func45, Try.ntmps45
      go_wp2_with (first | (go_at_call 64; (with_reducible refine hfd.out.mono ?_); rintro e w' ⟨rfl, i, hs, rfl⟩; have hs' := Aside0.mk hs; clear hs; have n1 : ¬ ((i : Int) < 0) := by omega) | fail)
      go_ret
      exact ⟨rfl, ⟨_, h'.out⟩, Fy.refl _ _⟩
    · have d0 : decide (a < 0) = false := decide_eq_false h0
      have d0' : 0 ≤ a := by omega
      by_cases h1 : a < s0.1.length
      · have e : rspoil R n a (xorB y) = (R.withL (mput R.L n (s0.1.set a.toNat (xorB y (s0.1.getD a.toNat 0)), s0.2)), true) := by
          unfold rspoil
          rw [hsg, if_pos ⟨d0', h1⟩]
        obtain ⟨z, hz⟩ : ∃ z, s0.1.getD a.toNat 0 = z := ⟨_, rfl⟩
        rw [e, hz]
        have hz' := Aside0.mk hz
        clear e h hn hu hok hl c1 c2 c3 hx hf hsg h0 hz
        go_enter Try.func45, Try.ntmps45
        go_upto_region 2 with (first | (go_at_call 64; (with_reducible refine hfd.out.mono ?_); rintro e w' ⟨rfl, i, hs, rfl⟩; have hs' := Aside0.mk hs; clear hs; have n1 : ¬ ((i : Int) < 0) := by omega) | fail)
        obtain ⟨g, A2, cb, rfl, x0, x1, x2, f1, f2, hrow⟩ := h'.out.elem hs'.out
        have hlt : i < R.L.length := (List.getElem?_eq_some_iff.1 hs'.out).1
        have p1 : 0 ≤ (i : Int) := by omega
        have q1 : (i : Int) < (R.L.length : Int) := by omega
        have hpl : p < w.heap.size := blk_lt h'.out.blk
        have hgl : g < w.heap.size := World.block_lt_of_cell? w _ x0
        have hC' := Aside0.mk (Kd.R_reads' hrow).2.2
        obtain ⟨q, sy⟩ := s0
        simp only [] at x1 hC' h1 hsl ⊢
        have h1' : ¬ ((q.length : Int) ≤ a) := by omega
        clear hrow hlt x0 x2
        go_upto_region 4 with fail
        go_upto_region 5 with (first
          | ((with_reducible refine gate_builtin (b := .append) (xs := #[.tmp 33, .tmp 41]) rfl ?_); at_builtin
             refine Kd.R_append_row (Value.int .u8) 0 (w0 := w) 0 rfl (.tmp 33) (.tmp 41) 30 5 (.int .u8 0) 1 rfl Try.underlying30 info5' rfl (by decide) (.slice (some ⟨w.heap.size, 0, none⟩) 0 0) [] q A2 q.length cb (fun k => w.heap.size ≤ k) rfl rfl (fun k hk => by simp at hk; omega) (Frm.R_mtk (Kd.int .u8) (blk_new _ _) (Nat.zero_le _) (Nat.le_refl _)) (Kd.C_below hC'.out (below_alloc (Below.refl _ _) _)) (below0 (below_alloc (Below.refl _ _) _)) (Nat.zero_le _) (by have := hsl.out; simp; omega) ?_
             intro v6 w6 hR6 hB6 hg6 hat6
             rw [List.nil_append] at hR6
             have hR6' := Aside0.mk hR6
             have hB6' : Aside0 (Below w.heap.size w w6) := ⟨(below_alloc (Below.refl _ _) _).grown hg6 (by simp) (fun k hk => by simp [Value.ownBlock] at hk; omega)⟩
             clear hg6 hat6 hR6 hB6)
          | fail)
        obtain ⟨gr, cap6, e6, hb6, _, cells6, hcl6⟩ := Kd.R_form hR6'.out (by omega)
        subst e6
        obtain ⟨r1, r2⟩ := Kd.R_cell (0 : Int) hR6'.out a d0' h1
        have hput := Kd.R_put hR6'.out a (xorB y z)
        have hge : w.heap.size ≤ gr := hR6'.out.1 gr (by simp [Value.ownBlock])
        have hrz : rdOf (0 : Int) q a = z := hz'.out
        rw [hrz] at r1
        have hput' := Aside0.mk hput
        have hge' := Aside0.mk hge
        clear hput hrz hge hcl6
        go_upto_region 6 with fail
        refine wp_world (fun W7 hW7 => ?_)
        have hR7 : Aside0 (Kd.R (Kd.int .u8) 5 W7 0 (fun k => w.heap.size ≤ k) (.slice (some ⟨gr, 0, none⟩) q.length cap6) (q.set a.toNat (xorB y z))) := ⟨by rw [hW7]; exact hput'.out.1⟩
        have hB7 : Aside0 (Below w.heap.size w W7) := ⟨by rw [hW7]; exact hB6'.out.grown hput'.out.2 (by have := hB6'.out.size; omega) (fun k hk => by cases hk; exact hge'.out)⟩
        clear hW7 r1 r2
        have y0 : W7.cell? ⟨p, 0, none⟩ = some (.slice (some ⟨g, 0, none⟩) R.L.length cap) := keepx c0 hB7.out
        have y1 : W7.cell? ⟨g, i * 3 + 1, none⟩ = some (.slice A2 q.length cb) := keepx x1 hB7.out
        have g1 : W7.frozen? ⟨g, i * 3 + 1, none⟩ = false := (hB7.out.frozen (p := ⟨g, i * 3 + 1, none⟩) hgl).trans f1
        have hfin := Aside0.mk (h'.out.setRow (R' := R.withL (mput R.L n (q.set a.toNat (xorB y z), sy))) hn'.out hs'.out hB7.out (Kd.R_mono hR7.out (fun k hk => ⟨⟨hok'.out k hk, by omega⟩, by omega⟩)) rfl rfl)
        clear c0 x1 f1 hpl hgl
        go_wp2_with fail
        go_ret
        exact ⟨rfl, ⟨_, hfin.out.1⟩, hfin.out.2⟩
      · have e : rspoil R n a (xorB y) = (R, false) := by
          unfold rspoil
          rw [hsg, if_neg (by omega)]
        rw [e]
        clear e h hn hu hok hl c1 c2 c3 hx hf hsg h0
        go_enter Try.func45, Try.ntmps45
        go_upto_region 2 with (first | (go_at_call 64; (with_reducible refine hfd.out.mono ?_); rintro e w' ⟨rfl, i, hs, rfl⟩; have hs' := Aside0.mk hs; clear hs; have n1 : ¬ ((i : Int) < 0) := by omega) | fail)
        obtain ⟨g, A2, cb, rfl, x0, x1, x2, f1, f2, hrow⟩ := h'.out.elem hs'.out
        have hlt : i < R.L.length := (List.getElem?_eq_some_iff.1 hs'.out).1
        have p1 : 0 ≤ (i : Int) := by omega
        have q1 : (i : Int) < (R.L.length : Int) := by omega
        obtain ⟨q, sy⟩ := s0
        simp only [] at x1 h1
        have h1' : (q.length : Int) ≤ a := by omega
        clear hrow hlt x0 x2 h1
        go_wp2_with fail
        go_ret
        exact ⟨rfl, ⟨_, h'.out⟩, Fy.refl _ _⟩
end
end Go.Proofs.Ytnplnelhodnonaa.Dsk
