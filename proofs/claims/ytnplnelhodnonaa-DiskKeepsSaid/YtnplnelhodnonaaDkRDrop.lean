/- The document's Drop, walked (its drawn region printed by genDR.py). -/
import Derived.Test.YtnplnelhodnonaaDkRef3
import Derived.Deep.DeepCutAuto
namespace Go.Proofs.Ytnplnelhodnonaa.Dsk
open Go.RowKit Go.Proofs.YtnplnelhodnonaaW.PrintWords Go.Proofs.YtnplnelhodnonaaW.PrintLast Go.Proofs.YtnplnelhodnonaaW.PrintMore
open Amap Frm
set_option linter.unusedVariables false
set_option linter.unusedSimpArgs false
set_option linter.unusedSectionVars false
theorem info81 : (Try.prog.info? 81).map (fun i => (i.zero, i.size, i.bytes)) = some (some (.agg #[.int .i64 0, .slice none 0 0, .int .i64 0]), 3, 40) := by kernel_rfl
theorem Q_rows {α : Type} {d : Kd α} {e base : Nat} {ok : Nat → Prop} {w : World} {A : Option Addr} {n c : Nat} {xs : List α} (h : d.Q e w base ok (.slice A n c) xs) : ReadsRow (d.M w base ok) d.sz w A n xs := by
  obtain ⟨_, inner, ho, hr⟩ := h
  obtain ⟨A', c', he, hl⟩ := q_slice ho
  injection he with h1 h2 h3
  subst h1; subst h2; subst h3
  refine ⟨rfl, q_max ho, fun hp => ?_⟩
  obtain ⟨ad, ha, hc⟩ := q_cells ho hp
  refine ⟨ad, ha, fun j p hj => ⟨(inner.drop (j * d.sz)).take d.sz, ?_, d.M_mono (fun k hk => hk.1) (hr.2 j p hj), fun i u hu => ?_⟩⟩
  · have hjl := (List.getElem?_eq_some_iff.1 hj).1
    have h1 : j * d.sz + d.sz ≤ inner.length := by rw [hr.1, ← Nat.succ_mul]; exact Nat.mul_le_mul_right _ hjl
    rw [List.length_take, List.length_drop]
    omega
  · refine hc _ u ?_
    rw [List.getElem?_take] at hu
    split at hu
    · rw [List.getElem?_drop] at hu
      exact hu
    · cases hu
theorem cuts {w : World} {ok : Nat → Prop} {A2 : Option Addr} {m c2 : Nat} {ys : Sgs} (hq : Kd.Q kSeg 81 w 0 ok (.slice A2 m c2) ys) {n : Nat} (hn : n < m) :
    (∀ W : World, (Instr.slice 69 (.slice A2 m c2) none (some (.int .i64 (n : Int))) none).run Try.prog W = .ok (.slice A2 n c2) W) ∧ Kd.Q kSeg 81 w 0 ok (.slice A2 n c2) (ys.take n) ∧
      ∃ A' c', (∀ W : World, (Instr.slice 69 (.slice A2 m c2) (some (.int .i64 ((n : Int) + 1))) none none).run Try.prog W = .ok (.slice A' (m - (n + 1)) c') W) ∧ Kd.Q kSeg 81 w 0 ok (.slice A' (m - (n + 1)) c') (ys.drop (n + 1)) := by
  obtain ⟨hm, hmc, _⟩ := Kd.Q_reads' hq
  obtain ⟨i0, hi0, hz⟩ := Option.map_eq_some_iff.1 info81
  simp only [Prod.mk.injEq] at hz
  have h1 := cut_to (P := Try.prog) 69 81 .i64 Try.underlying69 hi0 A2 m c2 (n : Int) (by omega) (by omega) hmc
  rw [show ((n : Int)).toNat = n from by simp] at h1
  have h2 := cut_from (P := Try.prog) 69 81 .i64 Try.underlying69 hi0 3 hz.2.1 A2 m c2 ((n : Int) + 1) (by omega) (by omega)
  rw [show ((n : Int) + 1).toNat = n + 1 from by omega] at h2
  have h3 := Kd.Q_drop (k := n + 1) hq (by omega)
  exact ⟨h1, Kd.Q_take hq (by omega), _, _, h2, h3⟩
section
variable {ok : Nat → Prop} {w w1 : World} {p : Nat} {R R' : RSt} {v v1 : Value} {L1 : Sgs}
/-- The disk's row is another. -/
theorem RAt.newRow (h : RAt ok w p R v) (hB : Below w.heap.size w w1) (hR : Kd.R kSeg 81 w1 0 (fun k => ok k ∧ k ≠ p) v1 L1) (hS : R'.L = L1) (hc : (rcs R v).setIfInBounds 0 v1 = rcs R' v1) : RAt ok (w1.setCell ⟨p, 0, none⟩ v1) p R' v1 ∧ Fy ok w (w1.setCell ⟨p, 0, none⟩ v1) := by
  have h5 := h.below hB
  refine ⟨⟨h.pk, blk_put h5.blk 0 v1 hc, ?_⟩, ((Fy.refl ok w).trans (Fy.of_below hB)).set h5.blk (by simp) h.pk 0 v1⟩
  rw [hS]
  exact Kd.R_far hR (fun k hk => hk.2) v1
theorem del_cut {L : Sgs} (hn : nd L) {i : Nat} {n : Int} {s : Sg} (h : L[i]? = some (n, s)) : L.take i ++ L.drop (i + 1) = mdel L n := by
  have h1 : mdel L n = L.eraseIdx i := mdel_at hn h
  rw [h1, List.eraseIdx_eq_take_drop_succ]
end
section
variable (R : RSt) (n : Int) (hl : R.L.length ≤ 100000) (hu : used R.L ≤ 100000000) (hn : nd R.L) (hf : R.fuse ≤ 9223372036854775807) (ok : Nat → Prop) (p : Nat) (w : World) (hok : ∀ k, w.heap.size ≤ k → ok k) (h : IsR ok w p R)
include hl hu hn hf hok h
set_option maxHeartbeats 4000000 in
set_option maxRecDepth 100000 in
theorem RDrop_calls : Calls Try.prog 43 #[.pointer (some ⟨p, 0, none⟩), .int .i64 n] w fun e w' => e = .returned (.int .i64 (rdrop R n).2) ∧ IsR ok w' p (rdrop R n).1 ∧ Fy ok w w' := by
  obtain ⟨v, h⟩ := h
  obtain ⟨c0, c1, c2, c3⟩ := h.cells
  have h' := Aside0.mk h
  cases hd : R.dead with
  | true =>
    have e : rdrop R n = (R, 8) := by unfold rdrop; rw [rfind_dead hd, if_neg (by decide)]
    have hfd := Aside0.mk (rfind_calls R n hl v ok p w h)
    rw [e]
    rw [hd] at c3
    clear e h hd hn hu hok hl c0 c1 c2 hf
    go_enter Try.func43, Try.ntmps43
    go_wp2_with (first | (go_at_call 64; (with_reducible refine hfd.out.mono ?_); rintro e w' ⟨rfl, ⟨_, rfl⟩ | ⟨i, s, _, rfl⟩⟩) | fail)
    all_goals
      go_ret
      exact ⟨rfl, ⟨_, h'.out⟩, Fy.refl _ _⟩
  | false =>
    rw [hd] at c3
    cases hx : mlook R.L n with
    | none =>
      have e : rdrop R n = (R, 5) := by unfold rdrop; rw [rfind_none hd hx, if_neg (by decide)]
      have hfd := Aside0.mk (rfind_no hl hn h hx)
      rw [e]
      clear e h hd hn hu hok hl c0 c1 c2 hx hf
      go_enter Try.func43, Try.ntmps43
      go_wp2_with (first | (go_at_call 64; (with_reducible refine hfd.out.mono ?_); rintro e w' ⟨rfl, rfl⟩) | fail)
      go_ret
      exact ⟨rfl, ⟨_, h'.out⟩, Fy.refl _ _⟩
    | some s0 =>
      have hfd := Aside0.mk (rfind_at hl hn h hx)
      have hb := rburn_calls R hf v ok p w h
      have hBL := rburn_L R
      obtain ⟨⟨B, y⟩, hB⟩ : ∃ r, rburn R = r := ⟨_, rfl⟩
      rw [hB] at hb hBL
      simp only [] at hb hBL
      have e : rdrop R n = if y = true then (B.withL (mdel R.L n), 0) else (B, 8) := by unfold rdrop; rw [rfind_some hd hx, if_pos rfl, hB]
      rw [e]
      obtain ⟨A, cap, rfl, hcap⟩ := h.form
      have hBL' := Aside0.mk hBL
      have hn' := Aside0.mk hn
      have hok' := Aside0.mk hok
      have hl' := Aside0.mk hl
      clear e h hd hn hu hok hl hx hBL hf c0 c1 c2 hB
      cases y with
      | false =>
        go_enter Try.func43, Try.ntmps43
        go_wp2_with (first | (go_at_call 64; (with_reducible refine hfd.out.mono ?_); rintro e w' ⟨rfl, i, hs, rfl⟩; have hs' := Aside0.mk hs; clear hs; have n1 : ¬ ((i : Int) < 0) := by omega) | (go_at_call 63; (with_reducible refine hb.mono ?_); rintro e w2 ⟨rfl, h2, k2⟩) | fail)
        go_ret
        exact ⟨rfl, ⟨_, h2⟩, k2⟩
      | true =>
        go_enter Try.func43, Try.ntmps43
        go_upto_region 8 with (first | (go_at_call 64; (with_reducible refine hfd.out.mono ?_); rintro e w' ⟨rfl, i, hs, rfl⟩; have hs' := Aside0.mk hs; clear hs; have n1 : ¬ ((i : Int) < 0) := by omega) | (go_at_call 63; (with_reducible refine hb.mono ?_); rintro e W ⟨rfl, h2, k2⟩; have h2' := Aside0.mk h2; have k2' := Aside0.mk k2; clear h2 k2) | fail)
        have hlt : i < R.L.length := (List.getElem?_eq_some_iff.1 hs'.out).1
        have p1 : 0 ≤ (i : Int) := by omega
        have q1 : (i : Int) < (R.L.length : Int) := by omega
        have hrow := h2'.out.row
        rw [hBL'.out] at hrow
        obtain ⟨hcut1, hq1, A3, c3', hcut2, hq2⟩ := cuts (Kd.Q_mono (Kd.Q_bound (Kd.Q_of_R hrow)) (ok' := fun k => (ok k ∧ k ≠ p) ∧ k < W.heap.size) (fun k hk => ⟨hk.1, hk.2.2.1⟩)) hlt
        have hys' : Aside0 (R.L.take i ++ R.L.drop (i + 1) = mdel R.L n) := ⟨del_cut hn'.out hs'.out⟩
        have htl : (R.L.take i).length = i := by rw [List.length_take]; omega
        have hp1 : p < W.heap.size := blk_lt h2'.out.blk
        have hok1' : Aside0 (∀ k, W.heap.size ≤ k → ok k ∧ k ≠ p) := ⟨fun k hk => ⟨hok'.out k (Nat.le_trans k2'.out.size hk), by omega⟩⟩
        obtain ⟨x2, _, _, _⟩ := h2'.out.cells
        have f2 := Aside0.mk (blk_frozen h2'.out.blk 0)
        have hq1' := Aside0.mk hq1
        have hq2' := Aside0.mk hq2
        have htl' := Aside0.mk htl
        have hwr : IntKind.i64.wrap ((i : Int) + 1) = (i : Int) + 1 := by have := hl'.out; simp [IntKind.wrap, IntKind.signed, IntKind.bits]; omega
        obtain ⟨m, hm⟩ : ∃ m, R.L.length = m := ⟨_, rfl⟩
        rw [hm] at x2 hcut1 hcut2 q1 hlt
        have hm' := Aside0.mk hm
        have hml := Aside0.mk (show m ≤ 100000 by rw [← hm]; exact hl'.out)
        have hlt' := Aside0.mk hlt
        obtain ⟨L1, hL1⟩ : ∃ L1, mdel R.L n = L1 := ⟨_, rfl⟩
        rw [hL1] at hys'
        have hL1' := Aside0.mk hL1
        clear hrow hq1 hq2 htl hfd hb hm hL1 c3 n1 hlt
        go_cut [6] (fun v6 wx => v6 = v6 ∧ Aside0 (IsR ok wx p (B.withL L1)) ∧ Aside0 (Fy ok W wx))
        case first =>
          refine start_ (n := 20) (S := fun w' => w'.cell? ⟨p, 0, none⟩ = some (.slice A m cap)) (ds := [19]) #[false, false, false, false, false, false, false, false, false, false, false, false, false, false, false, false, false, false, false, false] (by kernel_rfl) rfl rfl x2 (fun hHeld => ?_)
          refine pure_ (i := 0) (N := (some 21)) (v := ?_) (a' := ?_) #[true, false, false, false, false, false, false, false, false, false, false, false, false, false, false, false, false, false, false, false] rfl rfl (by kernel_rfl) (fun _ _ _ h => h) (Or.inl ⟨by rfl, ?_⟩) ?_ ?_
          rotate_left
          · intro w'
            go_simp
            with_reducible rfl
          rotate_left
          · simp only [Act.put, List.setIfInBounds_toArray, List.set_cons_zero, List.set_cons_succ, i64_w, i32_w]
            rfl
          refine pure_ (i := 2) (N := (some 23)) (v := ?_) (a' := ?_) #[true, false, true, false, false, false, false, false, false, false, false, false, false, false, false, false, false, false, false, false] rfl rfl (by kernel_rfl) (fun _ _ _ h => h) (Or.inl ⟨by rfl, ?_⟩) ?_ ?_
          rotate_left
          · intro w'
            go_simp
            with_reducible rfl
          rotate_left
          · simp only [Act.put, List.setIfInBounds_toArray, List.set_cons_zero, List.set_cons_succ, i64_w, i32_w]
            rfl
          refine pure_ (i := 3) (N := (some 24)) (v := ?_) (a' := ?_) #[true, false, true, true, false, false, false, false, false, false, false, false, false, false, false, false, false, false, false, false] rfl rfl (by kernel_rfl) (fun _ _ _ h => h) (Or.inl ⟨by rfl, ?_⟩) ?_ ?_
          rotate_left
          · intro w'
            go_simp
            with_reducible rfl
          rotate_left
          · simp only [Act.put, List.setIfInBounds_toArray, List.set_cons_zero, List.set_cons_succ, i64_w, i32_w]
            rfl
          refine pure_ (i := 4) (N := (some 25)) (v := ?_) (a' := ?_) #[true, false, true, true, true, false, false, false, false, false, false, false, false, false, false, false, false, false, false, false] rfl rfl (by kernel_rfl) (fun _ _ _ h => h) (Or.inl ⟨by rfl, ?_⟩) ?_ ?_
          rotate_left
          · intro w'
            go_simp
            with_reducible rfl
          rotate_left
          · simp only [Act.put, List.setIfInBounds_toArray, List.set_cons_zero, List.set_cons_succ, i64_w, i32_w]
            rfl
          refine take_ (i := 5) (N := (some 26)) (v := ?_) (a' := ?_) #[true, false, true, true, true, true, false, false, false, false, false, false, false, false, false, false, false, false, false, false] rfl rfl (by kernel_rfl) (fun _ _ _ h => h) (Or.inl ⟨by rfl, ?_⟩) hHeld ?_ ?_
          rotate_left
          · rintro w' s0
            go_simp
            with_reducible rfl
          rotate_left
          · simp only [Act.put, List.setIfInBounds_toArray, List.set_cons_zero, List.set_cons_succ, i64_w, i32_w]
            rfl
          refine pure_ (i := 6) (N := (some 27)) (v := ?_) (a' := ?_) #[true, false, true, true, true, true, true, false, false, false, false, false, false, false, false, false, false, false, false, false] rfl rfl (by kernel_rfl) (fun _ _ _ h => h) (Or.inl ⟨by rfl, ?_⟩) ?_ ?_
          rotate_left
          · intro w'
            go_simp
            with_reducible rfl
          rotate_left
          · simp only [Act.put, List.setIfInBounds_toArray, List.set_cons_zero, List.set_cons_succ, i64_w, i32_w]
            rfl
          refine pure_ (i := 7) (N := (some 28)) (v := ?_) (a' := ?_) #[true, false, true, true, true, true, true, true, false, false, false, false, false, false, false, false, false, false, false, false] rfl rfl (by kernel_rfl) (fun _ _ _ h => h) (Or.inl ⟨by rfl, ?_⟩) ?_ ?_
          rotate_left
          · intro w'
            go_simp
            with_reducible rfl
          rotate_left
          · simp only [Act.put, List.setIfInBounds_toArray, List.set_cons_zero, List.set_cons_succ, i64_w, i32_w]
            rfl
          refine pure_ (i := 9) (N := (some 30)) (v := ?_) (a' := ?_) #[true, false, true, true, true, true, true, true, false, true, false, false, false, false, false, false, false, false, false, false] rfl rfl (by kernel_rfl) (fun _ _ _ h => h) (Or.inl ⟨by rfl, ?_⟩) ?_ ?_
          rotate_left
          · intro w'
            go_simp
            with_reducible rfl
          rotate_left
          · simp only [Act.put, List.setIfInBounds_toArray, List.set_cons_zero, List.set_cons_succ, i64_w, i32_w]
            rfl
          refine pure_ (i := 10) (N := (some 31)) (v := ?_) (a' := ?_) #[true, false, true, true, true, true, true, true, false, true, true, false, false, false, false, false, false, false, false, false] rfl rfl (by kernel_rfl) (fun _ _ _ h => h) (Or.inl ⟨by rfl, ?_⟩) ?_ ?_
          rotate_left
          · intro w'
            go_simp
            with_reducible rfl
          rotate_left
          · simp only [Act.put, List.setIfInBounds_toArray, List.set_cons_zero, List.set_cons_succ, i64_w, i32_w]
            rfl
          refine pure_ (i := 11) (N := (some 32)) (v := ?_) (a' := ?_) #[true, false, true, true, true, true, true, true, false, true, true, true, false, false, false, false, false, false, false, false] rfl rfl (by kernel_rfl) (fun _ _ _ h => h) (Or.inl ⟨by rfl, ?_⟩) ?_ ?_
          rotate_left
          · intro w'
            go_simp
            with_reducible rfl
          rotate_left
          · simp only [Act.put, List.setIfInBounds_toArray, List.set_cons_zero, List.set_cons_succ, i64_w, i32_w]
            rfl
          refine take_ (i := 12) (N := (some 33)) (v := ?_) (a' := ?_) #[true, false, true, true, true, true, true, true, false, true, true, true, true, false, false, false, false, false, false, false] rfl rfl (by kernel_rfl) (fun _ _ _ h => h) (Or.inl ⟨by rfl, ?_⟩) hHeld ?_ ?_
          rotate_left
          · rintro w' s0
            go_simp
            with_reducible rfl
          rotate_left
          · simp only [Act.put, List.setIfInBounds_toArray, List.set_cons_zero, List.set_cons_succ, i64_w, i32_w]
            rfl
          refine pure_ (i := 13) (N := (some 34)) (v := ?_) (a' := ?_) #[true, false, true, true, true, true, true, true, false, true, true, true, true, true, false, false, false, false, false, false] rfl rfl (by kernel_rfl) (fun _ _ _ h => h) (Or.inl ⟨by rfl, ?_⟩) ?_ ?_
          rotate_left
          · intro w'
            go_simp
            with_reducible rfl
          rotate_left
          · simp only [Act.put, List.setIfInBounds_toArray, List.set_cons_zero, List.set_cons_succ, i64_w, i32_w]
            rfl
          refine pure_ (i := 14) (N := (some 35)) (v := ?_) (a' := ?_) #[true, false, true, true, true, true, true, true, false, true, true, true, true, true, true, false, false, false, false, false] rfl rfl (by kernel_rfl) (fun _ _ _ h => h) (Or.inl ⟨by rfl, ?_⟩) ?_ ?_
          rotate_left
          · intro w'
            go_simp
            with_reducible rfl
          rotate_left
          · simp only [Act.put, List.setIfInBounds_toArray, List.set_cons_zero, List.set_cons_succ, i64_w, i32_w]
            rfl
          refine pure_ (i := 15) (N := (some 36)) (v := ?_) (a' := ?_) #[true, false, true, true, true, true, true, true, false, true, true, true, true, true, true, true, false, false, false, false] rfl rfl (by kernel_rfl) (fun _ _ _ h => h) (Or.inl ⟨by rfl, ?_⟩) ?_ ?_
          rotate_left
          · intro w'
            go_simp
            with_reducible rfl
          rotate_left
          · simp only [Act.put, List.setIfInBounds_toArray, List.set_cons_zero, List.set_cons_succ, i64_w, i32_w]
            rfl
          refine one_ (i := 1) (N := (some 22)) #[true, true, true, true, true, true, true, true, false, true, true, true, true, true, true, true, false, false, false, false] rfl rfl (by kernel_rfl) (by decide) (fun K hK => ?_)
          go_simp
          refine hK.out _ _ (keepx x2 (by repeat (first | (with_reducible exact Below.refl _ _) | (with_reducible exact hB3.out) | (with_reducible exact hB4.out) | (with_reducible refine below_drew ?_) | (with_reducible refine below_alloc ?_ _)))) (fun hHeld => ?_)
          clear hK K
          refine one_ (i := 8) (N := (some 29)) #[true, true, true, true, true, true, true, true, true, true, true, true, true, true, true, true, false, false, false, false] rfl rfl (by kernel_rfl) (by decide) (fun K hK => ?_)
          refine Kd.R_append_rows_step kSeg (w0 := W) 0 (by rfl) (.tmp 22) (.tmp 28) 69 81 (.agg #[.int .i64 0, .slice none 0 0, .int .i64 0]) 40 (by rfl) Try.underlying69 info81 rfl (by decide) (by decide) _ [] (R.L.take i) A i cap (fun k => ok k ∧ k ≠ p) (fun k => (ok k ∧ k ≠ p) ∧ k < W.heap.size) (by rfl) (by rfl) (R_mtk kSeg (by repeat (first | (with_reducible exact blk_new_at (by simp)) | (with_reducible refine blk_alloc ?_ _) | (with_reducible refine blk_drew ?_))) (Nat.zero_le _) (hok1'.out _ (by first | omega | (simp; omega)))) (Q_rows (Kd.Q_below hq1'.out (by repeat (first | (with_reducible exact Below.refl _ _) | (with_reducible exact hB3.out) | (with_reducible exact hB4.out) | (with_reducible refine below_drew ?_) | (with_reducible refine below_alloc ?_ _))))) (fun _ _ hx => hx) (fun k hk => ⟨hk.1, by simp [Value.ownBlock]; omega⟩) (fun k hk => hok1'.out k (by simp at hk; omega)) (below0 (by repeat (first | (with_reducible exact Below.refl _ _) | (with_reducible exact hB3.out) | (with_reducible exact hB4.out) | (with_reducible refine below_drew ?_) | (with_reducible refine below_alloc ?_ _)))) (Nat.zero_le _) (by have := hml.out; have := hlt'.out; simp; omega) ?_
          intro v3 w3 hR3 _ hg3 hat3
          rw [List.nil_append] at hR3
          have hB3 : Aside0 (Below W.heap.size W w3) := ⟨pw_below_grown (by repeat (first | (with_reducible exact Below.refl _ _) | (with_reducible exact hB3.out) | (with_reducible exact hB4.out) | (with_reducible refine below_drew ?_) | (with_reducible refine below_alloc ?_ _))) _ (by simp <;> omega) hg3 (fun k e => by simp [Value.ownBlock] at e; omega)⟩
          have hfr3 : Aside0 (∀ k, v3.ownBlock = some k → W.heap.size ≤ k) := ⟨fun k e => by
            rcases hat3 with e1 | ⟨b, e1, hb⟩
            · rw [e1] at e; simp [Value.ownBlock] at e; omega
            · rw [e1] at e; cases e; simp at hb; omega⟩
          have hR3' := Aside0.mk hR3
          have hs3 : W.heap.size ≤ w3.heap.size := hB3.out.size
          refine hK.out _ _ (keepx x2 (by repeat (first | (with_reducible exact Below.refl _ _) | (with_reducible exact hB3.out) | (with_reducible exact hB4.out) | (with_reducible refine below_drew ?_) | (with_reducible refine below_alloc ?_ _)))) (fun hHeld => ?_)
          clear hK K
          clear hR3 hg3 hat3
          refine norm_ (a' := Act.put _ (some 29) v3) (by rfl) ?_
          refine one_ (i := 16) (N := (some 37)) #[true, true, true, true, true, true, true, true, true, true, true, true, true, true, true, true, true, false, false, false] rfl rfl (by kernel_rfl) (by decide) (fun K hK => ?_)
          refine Kd.R_append_rows_step kSeg (w0 := w3) 0 (by rfl) (.tmp 29) (.tmp 36) 69 81 (.agg #[.int .i64 0, .slice none 0 0, .int .i64 0]) 40 (by rfl) Try.underlying69 info81 rfl (by decide) (by decide) v3 (R.L.take i) (R.L.drop (i + 1)) A3 (m - (i + 1)) c3' (fun k => ok k ∧ k ≠ p) (fun k => (ok k ∧ k ≠ p) ∧ k < W.heap.size) (by rfl) (by rfl) hR3'.out (Q_rows (Kd.Q_below (by rw [← hm'.out]; exact hq2'.out) hB3.out)) (fun _ _ hx => hx) (fun k hk => ⟨hk.1, fun e => by have := hfr3.out k e.symm; omega⟩) (fun k hk => hok1'.out k (by omega)) (Below.refl _ _) (Nat.zero_le _) (by rw [htl'.out]; have := hml.out; have := hlt'.out; omega) ?_
          intro v5 w5 hR5 _ hg5 _
          have hB4 : Aside0 (Below W.heap.size W w5) := ⟨pw_below_grown hB3.out _ (by omega) hg5 (fun k e => hfr3.out k e)⟩
          rw [hys'.out] at hR5
          obtain ⟨A5, c5, e5⟩ := Kd.R_slice hR5
          subst e5
          have hfin := Aside0.mk (h2'.out.newRow (R' := B.withL L1) hB4.out hR5 rfl rfl)
          have f5 := (hB4.out.frozen (p := ⟨p, 0, none⟩) hp1).trans f2.out
          clear hR5 hg5
          refine hK.out _ _ (keepx x2 (by repeat (first | (with_reducible exact Below.refl _ _) | (with_reducible exact hB3.out) | (with_reducible exact hB4.out) | (with_reducible refine below_drew ?_) | (with_reducible refine below_alloc ?_ _)))) (fun hHeld => ?_)
          clear hK K
          refine pure_ (i := 17) (N := (some 38)) (v := ?_) (a' := ?_) #[true, true, true, true, true, true, true, true, true, true, true, true, true, true, true, true, true, true, false, false] rfl rfl (by kernel_rfl) (fun _ _ _ h => h) (Or.inl ⟨by rfl, ?_⟩) ?_ ?_
          rotate_left
          · intro w'
            go_simp
            with_reducible rfl
          rotate_left
          · simp only [Act.put, List.setIfInBounds_toArray, List.set_cons_zero, List.set_cons_succ, i64_w, i32_w]
            rfl
          refine pure_ (i := 18) (N := (some 39)) (v := ?_) (a' := ?_) #[true, true, true, true, true, true, true, true, true, true, true, true, true, true, true, true, true, true, true, false] rfl rfl (by kernel_rfl) (fun _ _ _ h => h) (Or.inl ⟨by rfl, ?_⟩) ?_ ?_
          rotate_left
          · intro w'
            go_simp
            with_reducible rfl
          rotate_left
          · simp only [Act.put, List.setIfInBounds_toArray, List.set_cons_zero, List.set_cons_succ, i64_w, i32_w]
            rfl
          refine last_ (i := 19) (N := none) #[true, true, true, true, true, true, true, true, true, true, true, true, true, true, true, true, true, true, true, true] rfl rfl (by kernel_rfl) (by decide) (fun K hK => ?_)
          have s0 := hHeld
          go_simp
          refine hK.out _ _ ?_
          clear hK K
          refine done_ (by kernel_rfl) ?_
          go_wp2_with fail
          go_meet
          exact ⟨trivial, ⟨⟨_, hfin.out.1⟩⟩, ⟨hfin.out.2⟩⟩
        case rest =>
          obtain ⟨_, h5, h6⟩ := hcut
          go_wp2_with fail
          go_ret
          rw [hL1'.out]
          exact ⟨rfl, h5.out, k2'.out.trans h6.out⟩
end
end Go.Proofs.Ytnplnelhodnonaa.Dsk
