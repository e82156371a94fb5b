/- The document's disk: Read, Sync, Spoil, walked. -/
import Derived.Test.YtnplnelhodnonaaDkRef
namespace Go.Proofs.Ytnplnelhodnonaa.Dsk
open Go.RowKit Go.Proofs.YtnplnelhodnonaaW.PrintWords Go.Proofs.YtnplnelhodnonaaW.PrintLast Go.Proofs.YtnplnelhodnonaaW.PrintMore
open Amap Frm
set_option linter.unusedVariables false
set_option linter.unusedSimpArgs false
set_option linter.unusedSectionVars false
section
variable {ok : Nat → Prop} {w w1 : World} {p : Nat} {R R' : RSt} {v : Value}
theorem mput_at' {L : Sgs} (hn : nd L) {i : Nat} {n : Int} {s u : Sg} (h : L[i]? = some (n, s)) : mput L n u = L.set i (n, u) := mput_at hn h
/-- A segment's synced count turns. -/
theorem RAt.setSync {g n cap : Nat} (h : RAt ok w p R (.slice (some ⟨g, 0, none⟩) n cap)) (hn : nd R.L) {i : Nat} {k : Int} {s : Sg} (hs : R.L[i]? = some (k, s)) (m : Nat) (hS : R'.L = mput R.L k (s.1, m)) (hc : rcs R' (.slice (some ⟨g, 0, none⟩) n cap) = rcs R (.slice (some ⟨g, 0, none⟩) n cap)) : RAt ok (w.setCell ⟨g, i * 3 + 2, none⟩ (.int .i64 m)) p R' (.slice (some ⟨g, 0, none⟩) n cap) ∧ Fy ok w (w.setCell ⟨g, i * 3 + 2, none⟩ (.int .i64 m)) := by
  have hlt := (List.getElem?_eq_some_iff.1 hs).1
  obtain ⟨hnl, _, _⟩ := Kd.R_reads' h.row
  have hgk := h.row.1 g (by simp [Value.ownBlock])
  obtain ⟨cells, hgc⟩ := Kd.R_typed h.row g (by simp [Value.ownBlock])
  obtain ⟨c, hcl, hM, hcc, _⟩ := Kd.R_elem h.row (0, ([], 0)) (i : Int) (by omega) (by omega)
  have hge : R.L.getD ((i : Int)).toNat (0, ([], 0)) = (k, s) := by simp [List.getD_eq_getElem?_getD, hs]
  rw [hge] at hM
  obtain ⟨A2, c2, rfl, hrow⟩ := kSeg_open hM
  have hseg := Kd.R_seg h.row (i : Int) (by omega) (by omega) (seg := [.int .i64 (m : Int)]) (j := 2) (okp := fun k => (ok k ∧ k ≠ p) ∧ k ≠ g) (x' := (k, (s.1, m))) hcl hcc (by simp [kSeg_sz]) (kSeg_mk (x := (k, (s.1, m))) hrow) (fun _ hk => hk)
  rw [kSeg_sz, show ((i : Int)).toNat = i from by simp] at hseg
  obtain ⟨h6, hg6⟩ := hseg
  have e1 : (w.setCells g (i * 3 + 2) [.int .i64 (m : Int)]) = w.setCell ⟨g, i * 3 + 2, none⟩ (.int .i64 (m : Int)) := rfl
  rw [e1] at h6 hg6
  refine ⟨⟨h.pk, ?_, ?_⟩, (Fy.refl ok w).set hgc (by simp) hgk.1 _ _⟩
  · rw [hc]
    exact blk_far h.blk (fun e => hgk.2 e.symm) _
  · rw [hS, mput_at' hn hs]
    exact h6
/-- A segment's bytes turn: another row. -/
theorem RAt.setRow {g n cap : Nat} (h : RAt ok w p R (.slice (some ⟨g, 0, none⟩) n cap)) (hn : nd R.L) {i : Nat} {k : Int} {s : Sg} (hs : R.L[i]? = some (k, s)) (hB : Below w.heap.size w w1) {v1 : Value} {q1 : List Int} (hR : Kd.R (Kd.int .u8) 5 w1 0 (fun k => (ok k ∧ k ≠ p) ∧ k ≠ g) v1 q1) (hS : R'.L = mput R.L k (q1, s.2)) (hc : rcs R' (.slice (some ⟨g, 0, none⟩) n cap) = rcs R (.slice (some ⟨g, 0, none⟩) n cap)) : RAt ok (w1.setCell ⟨g, i * 3 + 1, none⟩ v1) p R' (.slice (some ⟨g, 0, none⟩) n cap) ∧ Fy ok w (w1.setCell ⟨g, i * 3 + 1, none⟩ v1) := by
  have hlt := (List.getElem?_eq_some_iff.1 hs).1
  have h5 := h.below hB
  obtain ⟨hnl, _, _⟩ := Kd.R_reads' h5.row
  have hgk := h5.row.1 g (by simp [Value.ownBlock])
  obtain ⟨cells, hgc⟩ := Kd.R_typed h5.row g (by simp [Value.ownBlock])
  obtain ⟨c, hcl, hM, hcc, _⟩ := Kd.R_elem h5.row (0, ([], 0)) (i : Int) (by omega) (by omega)
  have hge : R.L.getD ((i : Int)).toNat (0, ([], 0)) = (k, s) := by simp [List.getD_eq_getElem?_getD, hs]
  rw [hge] at hM
  obtain ⟨A2, c2, rfl, hrow⟩ := kSeg_open hM
  have hseg := Kd.R_seg h5.row (i : Int) (by omega) (by omega) (seg := [v1]) (j := 1) (okp := fun k => (ok k ∧ k ≠ p) ∧ k ≠ g) (x' := (k, (q1, s.2))) hcl hcc (by simp [kSeg_sz]) (kSeg_mk (x := (k, (q1, s.2))) hR) (fun _ hk => hk)
  rw [kSeg_sz, show ((i : Int)).toNat = i from by simp] at hseg
  obtain ⟨h6, hg6⟩ := hseg
  have e1 : (w1.setCells g (i * 3 + 1) [v1]) = w1.setCell ⟨g, i * 3 + 1, none⟩ v1 := rfl
  rw [e1] at h6 hg6
  refine ⟨⟨h.pk, ?_, ?_⟩, ((Fy.refl ok w).trans (Fy.of_below hB)).set hgc (by simp) hgk.1 _ _⟩
  · rw [hc]
    exact blk_far h5.blk (fun e => hgk.2 e.symm) _
  · rw [hS, mput_at' hn hs]
    exact h6
end
theorem rfind_none {R : RSt} {n : Int} (hd : R.dead = false) (hx : mlook R.L n = none) : rfind R n = 5 := by unfold rfind; rw [if_neg (by simp [hd]), hx]; rfl
theorem rfind_some {R : RSt} {n : Int} (hd : R.dead = false) {s : Sg} (hx : mlook R.L n = some s) : rfind R n = 0 := by unfold rfind; rw [if_neg (by simp [hd]), hx]; rfl
theorem rfind_dead {R : RSt} {n : Int} (hd : R.dead = true) : rfind R n = 8 := by unfold rfind; rw [if_pos hd]
section
variable (R : RSt) (n : Int) (hl : R.L.length ≤ 100000) (hu : used R.L ≤ 100000000) (hn : nd R.L) (ok : Nat → Prop) (p : Nat) (w : World) (hok : ∀ k, w.heap.size ≤ k → ok k) (h : IsR ok w p R)
include hl hu hn hok h
set_option maxHeartbeats 4000000 in
set_option maxRecDepth 100000 in
theorem RRead_calls : Calls Try.prog 44 #[.pointer (some ⟨p, 0, none⟩), .int .i64 n] w fun e w' => ∃ A c, e = .returned (.tuple #[.slice A (rread R n).length c, .int .i64 (rfind R n)]) ∧ Kd.R (Kd.int .u8) 5 w' 0 (fun _ => True) (.slice A (rread R n).length c) (rread R n) ∧ Below w.heap.size w w' := by
  obtain ⟨v, h⟩ := h
  have hno : ∀ r, r ≠ 0 → rfind R n = r → rread R n = [] := fun r hr e => by unfold rread; rw [e, if_neg hr]
  have hfd := Aside0.mk (rfind_calls R n hl v ok p w h)
  obtain ⟨c0, c1, c2, c3⟩ := h.cells
  cases hd : R.dead with
  | true =>
    have e := rfind_dead (n := n) hd
    rw [hno 8 (by decide) e, e]
    rw [hd] at c3
    clear hno e h hd hn hu hok hl c0 c1 c2
    go_enter Try.func44, Try.ntmps44
    go_wp2_with (first | (go_at_call 64; (with_reducible refine hfd.out.mono ?_); rintro e w' ⟨rfl, ⟨_, rfl⟩ | ⟨i, s, _, rfl⟩⟩) | fail)
    all_goals
      refine bodyPost_ret (v := .tuple #[.slice none 0 0, .int .i64 8]) (by simp [results, Try.results44, go_sem]) rfl ?_
      exact ⟨none, 0, rfl, Kd.R_nil _ _ _ _ _, Below.refl _ _⟩
  | false =>
    rw [hd] at c3
    cases hx : mlook R.L n with
    | none =>
      have e := rfind_none (n := n) hd hx
      rw [hno 5 (by decide) e, e]
      have hnx : ∀ (i : Nat) (s : Sg), R.L[i]? ≠ some (n, s) := fun i s hs => by rw [at_look hn hs] at hx; cases hx
      have hnx' := Aside0.mk hnx
      clear hno e h hd hn hu hok hl c0 c1 c2 hx hnx
      go_enter Try.func44, Try.ntmps44
      go_wp2_with (first | (go_at_call 64; (with_reducible refine hfd.out.mono ?_); rintro e w' ⟨rfl, ⟨_, rfl⟩ | ⟨i, s, hs, rfl⟩⟩; rotate_left; exact absurd hs (hnx'.out _ _)) | fail)
      refine bodyPost_ret (v := .tuple #[.slice none 0 0, .int .i64 5]) (by simp [results, Try.results44, go_sem]) rfl ?_
      exact ⟨none, 0, rfl, Kd.R_nil _ _ _ _ _, Below.refl _ _⟩
    | some s0 =>
      have e := rfind_some (n := n) hd hx
      have e2 : rread R n = s0.1 := by unfold rread; rw [e, if_pos rfl, sg_some hx]
      rw [e2, e]
      have hsl : s0.1.length ≤ 100000000 := by
        have := used_mem (look_mem hx)
        simp only [] at this
        omega
      obtain ⟨A, cap, rfl, hcap⟩ := h.form
      have hfd2 : Aside0 (Calls Try.prog 64 #[.pointer (some ⟨p, 0, none⟩), .int .i64 n] w fun e w' => w = w' ∧ ∃ i : Nat, R.L[i]? = some (n, s0) ∧ e = .returned (.int .i64 (i : Int))) := ⟨hfd.out.mono (by
        rintro e w' ⟨rfl, ⟨h1, rfl⟩ | ⟨i, s, hs, rfl⟩⟩
        · rw [hx] at h1; cases h1
        · have h1 := at_look hn hs
          rw [hx] at h1
          cases h1
          exact ⟨rfl, i, hs, rfl⟩)⟩
      have h' := Aside0.mk h
      have hsl' := Aside0.mk hsl
      clear hno e e2 h hd hn hu hok hl hx hsl hfd c1 c2
      go_enter Try.func44, Try.ntmps44
      go_upto_region 2 with (first | (go_at_call 64; (with_reducible refine hfd2.out.mono ?_); rintro e w' ⟨rfl, i, hs, rfl⟩) | fail)
      obtain ⟨g, A2, c2, rfl, x0, x1, x2, _, _, hrow⟩ := h'.out.elem hs
      obtain ⟨hcc, _, hC⟩ := Kd.R_reads' hrow
      have hC' := Aside0.mk hC
      have hlt : i < R.L.length := (List.getElem?_eq_some_iff.1 hs).1
      have p1 : 0 ≤ (i : Int) := by omega
      have q1 : (i : Int) < (R.L.length : Int) := by omega
      have n1 : ¬ ((i : Int) < 0) := by omega
      have hpl : p < w.heap.size := blk_lt h'.out.blk
      have hgl : g < w.heap.size := World.block_lt_of_cell? w _ x0
      obtain ⟨qq, qs⟩ := s0
      simp only [] at x1 hC'
      clear hs hrow hC hlt hcc x0 x2
      go_wp2_with (first
        | ((with_reducible refine gate_builtin (b := .append) (xs := #[.tmp 18, .tmp 26]) rfl ?_); at_builtin
           refine Kd.R_append_row (Value.int .u8) 0 (w0 := w) 0 rfl (.tmp 18) (.tmp 26) 30 5 (.int .u8 0) 1 rfl Try.underlying30 info5' rfl (by decide) (.slice (some ⟨w.heap.size, 0, none⟩) 0 0) [] qq A2 qq.length c2 (fun _ => True) rfl rfl (fun _ _ => trivial) (R_mt5 (blk_new _ _) 0 (Nat.zero_le _)) (Kd.C_below hC'.out (below_alloc (Below.refl _ _) _)) (below0 (below_alloc (Below.refl _ _) _)) (Nat.zero_le _) (by have := hsl'.out; simp only [] at this; simp; omega) ?_
           intro v6 w6 hR6 hB6 hg6 hat6
           rw [List.nil_append] at hR6
           obtain ⟨A6, c6, e6, hc6, hC6⟩ := Kd.R_reads hR6
           subst e6
           have hR6' := Aside0.mk hR6
           have hB6' : Aside0 (Below w.heap.size w w6) := ⟨(below_alloc (Below.refl _ _) _).grown hg6 (by simp) (fun k hk => by simp [Value.ownBlock] at hk; omega)⟩
           clear hg6 hat6 hR6 hB6 hc6 hC6)
        | fail)
      refine bodyPost_ret (v := .tuple #[.slice A6 qq.length c6, .int .i64 0]) (by simp [results, Try.results44, go_sem]) rfl ?_
      exact ⟨A6, c6, rfl, hR6'.out, hB6'.out⟩
end
end Go.Proofs.Ytnplnelhodnonaa.Dsk
