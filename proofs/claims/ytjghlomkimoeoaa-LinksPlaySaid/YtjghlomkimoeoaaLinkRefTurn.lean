/- The document's Turn, walked. -/
import Derived.Test.YtjghlomkimoeoaaLinkRefTake
namespace Go.Proofs.Ytjghlomkimoeoaa.Lnk
open Go.RowKit Go.Proofs.YtjghlomkimoeoaaW.PrintWords Go.Proofs.YtjghlomkimoeoaaW.PrintLast Go.Proofs.YtjghlomkimoeoaaW.PrintMore Go.Proofs.Ytjghlomkimoeoaa.PLinksPlay
open Amap Stp
set_option linter.unusedVariables false
set_option linter.unusedSimpArgs false
theorem one25 {W w' : World} {okp : Nat → Prop} {b : Nat} {x : List Int} {u : Value} (hM : kB.M W 0 okp x [u]) (hb : w'.heap[b]? = some (.cells #[u] 25 (0, 0))) (hB : Below W.heap.size W w') : ReadsRow (kB.M w' 0 okp) 1 w' (some ⟨b, 0, none⟩) 1 [x] := by
  refine ⟨rfl, by decide, fun _ => ⟨_, rfl, fun j p hj => ?_⟩⟩
  cases j with
  | zero =>
    simp at hj
    subst hj
    refine ⟨[u], rfl, M_grow hM hB, fun i v hv => ?_⟩
    have := World.news_of_block hb i v hv
    simpa using this
  | succ j => simp at hj
set_option maxHeartbeats 2000000 in
set_option maxRecDepth 100000 in
theorem RTurn_no (R : RSt) (a c : Int) (hx : rthere R (a, c) = false ∨ (line R.L (a, c)).length < 2) (hn : (R.L.map (·.1)).Nodup) (hl : R.L.length ≤ 800) (ok : Nat → Prop) (p : Nat) (w : World) (hok : ∀ k, w.heap.size ≤ k → ok k) (h : IsR ok w p R) :
    Calls Try.prog 38 #[.pointer (some ⟨p, 0, none⟩), .int .i64 a, .int .i64 c] w fun e w' => e = .returned (.bool false) ∧ IsR ok w' p (rturn R (a, c)).1 ∧ Fy ok w w' := by
  cases ht : rthere R (a, c) with
  | false =>
    have hf := Aside0.mk (find_no R a c ht ok p w h)
    have hr : (rturn R (a, c)).1 = R := by unfold rturn; rw [ht, if_pos rfl]
    rw [hr]
    have h' := Aside0.mk h
    clear hr h ht hx
    go_enter Try.func38, Try.ntmps38
    go_wp2_with fail
    refine hf.out.mono ?_
    rintro e w1 ⟨rfl, rfl⟩
    go_wp2
    go_ret
    exact ⟨rfl, h'.out, Fy.refl _ _⟩
  | true =>
    have hlen : (line R.L (a, c)).length < 2 := by
      rcases hx with hx | hx
      · rw [ht] at hx; cases hx
      · exact hx
    have hf := Aside0.mk (find_yes R a c ht hn (by omega) ok p w hok h)
    have hr : (rturn R (a, c)).1 = rfind R (a, c) := by
      unfold rturn
      rw [ht, if_neg (by simp)]
      rcases hc : line R.L (a, c) with _ | ⟨x, _ | ⟨y, r⟩⟩
      · rfl
      · rfl
      · exfalso
        rw [hc] at hlen
        simp only [List.length_cons] at hlen
        omega
    rw [hr]
    have hln := Aside0.mk (rfind_line R (a, c) (a, c))
    obtain ⟨m, hm⟩ : ∃ m, (line R.L (a, c)).length = m := ⟨_, rfl⟩
    rw [hm] at hlen
    have hm' := Aside0.mk hm
    have hd : decide ((m : Int) < 2) = true := decide_eq_true (by omega)
    clear hr h ht hx hm
    go_enter Try.func38, Try.ntmps38
    go_wp2_with fail
    refine hf.out.mono ?_
    rintro e w1 ⟨g, cap, i, rfl, hA, hk⟩
    obtain ⟨A2, c2, x2, _, _⟩ := hA.cells
    rw [hln.out, hm'.out] at x2
    have hA' := Aside0.mk hA
    have hk' := Aside0.mk hk
    clear hA hk
    go_wp2
    go_ret
    exact ⟨rfl, hA'.out.is, hk'.out⟩
set_option maxHeartbeats 4000000 in
set_option maxRecDepth 100000 in
theorem RTurn_yes (R : RSt) (a c : Int) (x : List Int) (r : List (List Int)) (hx : line R.L (a, c) = x :: r) (hr1 : 1 ≤ r.length) (ht : rthere R (a, c) = true) (htt : tot R.L ≤ 100) (hn : (R.L.map (·.1)).Nodup) (hl : R.L.length ≤ 800) (ok : Nat → Prop) (p : Nat) (w : World) (hok : ∀ k, w.heap.size ≤ k → ok k) (h : IsR ok w p R) :
    Calls Try.prog 38 #[.pointer (some ⟨p, 0, none⟩), .int .i64 a, .int .i64 c] w fun e w' => e = .returned (.bool true) ∧ IsR ok w' p ⟨R.parties, mput (rfind R (a, c)).L (a, c) (r ++ [x])⟩ ∧ Fy ok w w' := by
  have hll : (line R.L (a, c)).length ≤ 100 := by have := tot_put R.L (a, c) []; simp at this; omega
  have hf := Aside0.mk (find_yes R a c ht hn (by omega) ok p w hok h)
  have hnr := Aside0.mk (nd_rfind hn (a, c))
  have hln := Aside0.mk (rfind_line R (a, c) (a, c))
  have hok' := Aside0.mk hok
  rw [hx] at hln hll
  simp only [List.length_cons] at hll
  have hd : decide (((r.length + 1 : Nat) : Int) < 2) = false := decide_eq_false (by omega)
  have hd' : decide ((r.length : Int) + 1 < 2) = false := decide_eq_false (by omega)
  have hpar := Aside0.mk (rfind_par R (a, c))
  clear h ht hn htt hl hok hx
  obtain ⟨R1, hR1⟩ : ∃ R1, rfind R (a, c) = R1 := ⟨_, rfl⟩
  rw [hR1] at hf hnr hln hpar ⊢
  rw [← hpar.out]
  clear hR1 hpar
  go_enter Try.func38, Try.ntmps38
  go_wp2_with fail
  refine hf.out.mono ?_
  rintro e W ⟨g, cap, i, rfl, hA, hk⟩
  obtain ⟨A2, c2, x2, f2, hq⟩ := hA.cells
  rw [hln.out] at x2 hq
  obtain ⟨ad, c2', A6, c6, e0, xa, hM, v1, hcut, hq1, _, _⟩ := Q_head (Kd.Q_mono (Kd.Q_bound (Kd.Q_of_R hq)) (ok' := fun k => ((ok k ∧ k ≠ p) ∧ k ≠ g) ∧ k < W.heap.size) (fun k hk => ⟨hk.1, hk.2.2.1⟩))
  obtain ⟨A3, c3, e1, _⟩ := Kd.Q_slice hq1
  subst e1
  simp only [List.length_cons] at x2 e0 hcut
  cases e0
  have hM' := Aside0.mk (Kd.M_drop hM)
  have hg1 : g < W.heap.size := World.block_lt_of_cell? W _ x2
  have hg2 : ad.block < W.heap.size := World.block_lt_of_cell? W _ xa
  have hp1 : p < W.heap.size := blk_lt hA.at_.blk
  have hs1 : w.heap.size ≤ W.heap.size := hk.size
  have hok1' : Aside0 (∀ k, W.heap.size ≤ k → (ok k ∧ k ≠ p) ∧ k ≠ g) := ⟨fun k hk => ⟨⟨hok'.out k (by omega), by omega⟩, by omega⟩⟩
  have hA' := Aside0.mk hA
  have hk' := Aside0.mk hk
  have hq2' := Aside0.mk hq1
  have f2' := Aside0.mk f2
  have xa' := Aside0.mk xa
  clear hA hk hq hq1 hM f2 hf xa
  clear hr1
  go_upto_region 4 with fail
  go_cut [] (fun wx => Aside0 (IsR ok wx p ⟨R1.parties, mput R1.L (a, c) (r ++ [x])⟩) ∧ Aside0 (Fy ok W wx))
  case first =>
    have xa := xa'.out
    refine start_ (n := 19) (S := fun w' => w'.cell? ⟨g, i * 3 + 2, none⟩ = some (.slice (some ad) (r.length + 1) c2) ∧ w'.cell? ad = some (.slice A6 x.length c6)) (ds := [18]) #[false, false, false, false, false, false, false, false, false, false, false, false, false, false, false, false, false, false, false] (by kernel_rfl) rfl rfl ⟨x2, xa⟩ (fun hHeld => ?_)
    refine pure_ (i := 0) (N := (some 22)) (v := ?_) (a' := ?_) #[true, false, false, false, false, false, false, false, false, false, false, false, false, false, false, false, false, false, false] rfl rfl (by kernel_rfl) (fun _ _ _ h => h) (Or.inl ⟨by rfl, ?_⟩) ?_ ?_
    rotate_left
    · intro w'
      go_simp
      with_reducible rfl
    rotate_left
    · simp only [Act.put, List.setIfInBounds_toArray, List.set_cons_zero, List.set_cons_succ, i64_w, i32_w]
      rfl
    refine pure_ (i := 2) (N := (some 24)) (v := ?_) (a' := ?_) #[true, false, true, false, false, false, false, false, false, false, false, false, false, false, false, false, false, false, false] rfl rfl (by kernel_rfl) (fun _ _ _ h => h) (Or.inl ⟨by rfl, ?_⟩) ?_ ?_
    rotate_left
    · intro w'
      go_simp
      with_reducible rfl
    rotate_left
    · simp only [Act.put, List.setIfInBounds_toArray, List.set_cons_zero, List.set_cons_succ, i64_w, i32_w]
      rfl
    refine pure_ (i := 3) (N := (some 25)) (v := ?_) (a' := ?_) #[true, false, true, true, false, false, false, false, false, false, false, false, false, false, false, false, false, false, false] rfl rfl (by kernel_rfl) (fun _ _ _ h => h) (Or.inl ⟨by rfl, ?_⟩) ?_ ?_
    rotate_left
    · intro w'
      go_simp
      with_reducible rfl
    rotate_left
    · simp only [Act.put, List.setIfInBounds_toArray, List.set_cons_zero, List.set_cons_succ, i64_w, i32_w]
      rfl
    refine pure_ (i := 4) (N := (some 26)) (v := ?_) (a' := ?_) #[true, false, true, true, true, false, false, false, false, false, false, false, false, false, false, false, false, false, false] rfl rfl (by kernel_rfl) (fun _ _ _ h => h) (Or.inl ⟨by rfl, ?_⟩) ?_ ?_
    rotate_left
    · intro w'
      go_simp
      with_reducible rfl
    rotate_left
    · simp only [Act.put, List.setIfInBounds_toArray, List.set_cons_zero, List.set_cons_succ, i64_w, i32_w]
      rfl
    refine take_ (i := 5) (N := (some 27)) (v := ?_) (a' := ?_) #[true, false, true, true, true, true, false, false, false, false, false, false, false, false, false, false, false, false, false] rfl rfl (by kernel_rfl) (fun _ _ _ h => h) (Or.inl ⟨by rfl, ?_⟩) hHeld ?_ ?_
    rotate_left
    · rintro w' ⟨s0, s1⟩
      go_simp
      with_reducible rfl
    rotate_left
    · simp only [Act.put, List.setIfInBounds_toArray, List.set_cons_zero, List.set_cons_succ, i64_w, i32_w]
      rfl
    refine pure_ (i := 6) (N := (some 28)) (v := ?_) (a' := ?_) #[true, false, true, true, true, true, true, false, false, false, false, false, false, false, false, false, false, false, false] rfl rfl (by kernel_rfl) (fun _ _ _ h => h) (Or.inl ⟨by rfl, ?_⟩) ?_ ?_
    rotate_left
    · intro w'
      go_simp
      with_reducible rfl
    rotate_left
    · simp only [Act.put, List.setIfInBounds_toArray, List.set_cons_zero, List.set_cons_succ, i64_w, i32_w]
      rfl
    refine pure_ (i := 8) (N := (some 30)) (v := ?_) (a' := ?_) #[true, false, true, true, true, true, true, false, true, false, false, false, false, false, false, false, false, false, false] rfl rfl (by kernel_rfl) (fun _ _ _ h => h) (Or.inl ⟨by rfl, ?_⟩) ?_ ?_
    rotate_left
    · intro w'
      go_simp
      with_reducible rfl
    rotate_left
    · simp only [Act.put, List.setIfInBounds_toArray, List.set_cons_zero, List.set_cons_succ, i64_w, i32_w]
      rfl
    refine pure_ (i := 9) (N := (some 31)) (v := ?_) (a' := ?_) #[true, false, true, true, true, true, true, false, true, true, false, false, false, false, false, false, false, false, false] rfl rfl (by kernel_rfl) (fun _ _ _ h => h) (Or.inl ⟨by rfl, ?_⟩) ?_ ?_
    rotate_left
    · intro w'
      go_simp
      with_reducible rfl
    rotate_left
    · simp only [Act.put, List.setIfInBounds_toArray, List.set_cons_zero, List.set_cons_succ, i64_w, i32_w]
      rfl
    refine pure_ (i := 10) (N := (some 32)) (v := ?_) (a' := ?_) #[true, false, true, true, true, true, true, false, true, true, true, false, false, false, false, false, false, false, false] rfl rfl (by kernel_rfl) (fun _ _ _ h => h) (Or.inl ⟨by rfl, ?_⟩) ?_ ?_
    rotate_left
    · intro w'
      go_simp
      with_reducible rfl
    rotate_left
    · simp only [Act.put, List.setIfInBounds_toArray, List.set_cons_zero, List.set_cons_succ, i64_w, i32_w]
      rfl
    refine take_ (i := 11) (N := (some 33)) (v := ?_) (a' := ?_) #[true, false, true, true, true, true, true, false, true, true, true, true, false, false, false, false, false, false, false] rfl rfl (by kernel_rfl) (fun _ _ _ h => h) (Or.inl ⟨by rfl, ?_⟩) hHeld ?_ ?_
    rotate_left
    · rintro w' ⟨s0, s1⟩
      go_simp
      with_reducible rfl
    rotate_left
    · simp only [Act.put, List.setIfInBounds_toArray, List.set_cons_zero, List.set_cons_succ, i64_w, i32_w]
      rfl
    refine pure_ (i := 12) (N := (some 34)) (v := ?_) (a' := ?_) #[true, false, true, true, true, true, true, false, true, true, true, true, true, false, false, false, false, false, false] rfl rfl (by kernel_rfl) (fun _ _ _ h => h) (Or.inl ⟨by rfl, ?_⟩) ?_ ?_
    rotate_left
    · intro w'
      go_simp
      with_reducible rfl
    rotate_left
    · simp only [Act.put, List.setIfInBounds_toArray, List.set_cons_zero, List.set_cons_succ, i64_w, i32_w]
      rfl
    refine take_ (i := 13) (N := (some 35)) (v := ?_) (a' := ?_) #[true, false, true, true, true, true, true, false, true, true, true, true, true, true, false, false, false, false, false] rfl rfl (by kernel_rfl) (fun _ _ _ h => h) (Or.inl ⟨by rfl, ?_⟩) hHeld ?_ ?_
    rotate_left
    · rintro w' ⟨s0, s1⟩
      go_simp
      with_reducible rfl
    rotate_left
    · simp only [Act.put, List.setIfInBounds_toArray, List.set_cons_zero, List.set_cons_succ, i64_w, i32_w]
      rfl
    refine join_ (σ := Nat × Value × Nat) 4 #[true, true, true, true, true, true, true, true, true, true, true, true, true, true, true, false, false, false, false] (fun s => [(23, .slice (some ⟨s.1, 0, none⟩) 0 0), (29, s.2.1), (36, .slice (some ⟨s.2.2, 0, none⟩) 1 1)]) (fun s w' => Kd.R kB 25 w' 0 (fun k => (ok k ∧ k ≠ p) ∧ k ≠ g) s.2.1 r ∧ ReadsRow (kB.M w' 0 (fun k => ((ok k ∧ k ≠ p) ∧ k ≠ g) ∧ k < W.heap.size)) 1 w' (some ⟨s.2.2, 0, none⟩) 1 [x] ∧ Below W.heap.size W w' ∧ (∀ k, s.2.1.ownBlock = some k → W.heap.size ≤ k)) ?_ ?_
    · intro s w' hF
      refine norm_ (a' := ?_) ?_ ?_
      rotate_left
      · simp only [putAll, Act.put, List.setIfInBounds_toArray, List.set_cons_zero, List.set_cons_succ, i64_w, i32_w]
        rfl
      obtain ⟨hF1, hF2, hF3, hF4⟩ := hF
      have hHeld := (⟨keepx x2 hF3, keepy xa hF3⟩ : _ ∧ _)
      have hsw := hF3.size
      refine one_ (i := 15) (N := (some 37)) #[true, true, true, true, true, true, true, true, true, true, true, true, true, true, true, true, false, false, false] rfl rfl (by kernel_rfl) (by decide) (fun K hK => ?_)
      refine Kd.R_append_rows_step kB (w0 := w') 0 (by rfl) (.tmp 29) (.tmp 36) 117 25 (.slice none 0 0) 24 (by rfl) Try.underlying117 info25 rfl (by decide) (by decide) s.2.1 r [x] (some ⟨s.2.2, 0, none⟩) 1 1 (fun k => (ok k ∧ k ≠ p) ∧ k ≠ g) (fun k => ((ok k ∧ k ≠ p) ∧ k ≠ g) ∧ k < W.heap.size) (by rfl) (by rfl) hF1 hF2 (fun _ _ hx => hx) (fun k hk => ⟨hk.1, fun e => by have := hF4 k e.symm; omega⟩) (fun k hk => hok1'.out k (by omega)) (Below.refl _ _) (Nat.zero_le _) (by omega) ?_
      intro v5 w5 hR5 _ hg5 _
      have hB4 : Aside0 (Below W.heap.size W w5) := ⟨pw_below_grown hF3 _ (by omega) hg5 (fun k e => hF4 k e)⟩
      obtain ⟨A5, c5, e5⟩ := Kd.R_slice hR5
      rw [List.length_append, List.length_singleton] at e5
      subst e5
      have hfin := Aside0.mk (hA'.out.store hnr.out hB4.out hR5)
      have f5 := (hB4.out.frozen (p := ⟨g, i * 3 + 2, none⟩) hg1).trans f2'.out
      clear hR5 hg5
      refine hK.out _ _ ⟨keepx x2 (by repeat (first | (with_reducible exact Below.refl _ _) | (with_reducible exact hB3.out) | (with_reducible exact hB4.out) | (with_reducible exact hF3) | (with_reducible refine below_drew ?_) | (with_reducible refine below_alloc ?_ _))), keepy xa (by repeat (first | (with_reducible exact Below.refl _ _) | (with_reducible exact hB3.out) | (with_reducible exact hB4.out) | (with_reducible exact hF3) | (with_reducible refine below_drew ?_) | (with_reducible refine below_alloc ?_ _)))⟩ (fun hHeld => ?_)
      clear hK K
      refine pure_ (i := 16) (N := (some 38)) (v := ?_) (a' := ?_) #[true, true, true, true, true, true, true, true, true, true, true, true, true, true, true, true, true, false, false] rfl rfl (by kernel_rfl) (fun _ _ _ h => h) (Or.inl ⟨by rfl, ?_⟩) ?_ ?_
      rotate_left
      · intro w'
        go_simp
        with_reducible rfl
      rotate_left
      · simp only [Act.put, List.setIfInBounds_toArray, List.set_cons_zero, List.set_cons_succ, i64_w, i32_w]
        rfl
      refine pure_ (i := 17) (N := (some 39)) (v := ?_) (a' := ?_) #[true, true, true, true, true, true, true, true, true, true, true, true, true, true, true, true, true, true, false] rfl rfl (by kernel_rfl) (fun _ _ _ h => h) (Or.inl ⟨by rfl, ?_⟩) ?_ ?_
      rotate_left
      · intro w'
        go_simp
        with_reducible rfl
      rotate_left
      · simp only [Act.put, List.setIfInBounds_toArray, List.set_cons_zero, List.set_cons_succ, i64_w, i32_w]
        rfl
      refine last_ (i := 18) (N := none) #[true, true, true, true, true, true, true, true, true, true, true, true, true, true, true, true, true, true, true] rfl rfl (by kernel_rfl) (by decide) (fun K hK => ?_)
      obtain ⟨s0, -⟩ := hHeld
      go_simp
      refine hK.out _ _ ?_
      clear hK K
      refine done_ (by kernel_rfl) ?_
      go_wp2_with fail
      go_meet
      exact ⟨⟨hfin.out.1⟩, ⟨hfin.out.2⟩⟩
    · intro hj
      refine two_ (i := 1) (j := 14) (Ni := (some 23)) (Nj := (some 36)) #[true, true, true, true, true, true, true, false, true, true, true, true, true, true, false, false, false, false, false] #[true, false, true, true, true, true, true, false, true, true, true, true, true, true, true, false, false, false, false] rfl rfl rfl rfl (by kernel_rfl) (by decide) (by decide) (fun K hK => ?_) (fun K hK => ?_)
      · go_simp
        refine hK.out _ _ ⟨keepx x2 (by repeat (first | (with_reducible exact Below.refl _ _) | (with_reducible exact hB3.out) | (with_reducible exact hB4.out) | (with_reducible exact hF3) | (with_reducible refine below_drew ?_) | (with_reducible refine below_alloc ?_ _))), keepy xa (by repeat (first | (with_reducible exact Below.refl _ _) | (with_reducible exact hB3.out) | (with_reducible exact hB4.out) | (with_reducible exact hF3) | (with_reducible refine below_drew ?_) | (with_reducible refine below_alloc ?_ _)))⟩ (fun hHeld => ?_)
        clear hK K
        refine two_ (i := 7) (j := 14) (Ni := (some 29)) (Nj := (some 36)) #[true, true, true, true, true, true, true, true, true, true, true, true, true, true, false, false, false, false, false] #[true, true, true, true, true, true, true, false, true, true, true, true, true, true, true, false, false, false, false] rfl rfl rfl rfl (by kernel_rfl) (by decide) (by decide) (fun K hK => ?_) (fun K hK => ?_)
        · refine Kd.R_append_rows_step kB (w0 := W) 0 (by rfl) (.tmp 23) (.tmp 28) 117 25 (.slice none 0 0) 24 (by rfl) Try.underlying117 info25 rfl (by decide) (by decide) _ [] r A3 r.length c3 (fun k => (ok k ∧ k ≠ p) ∧ k ≠ g) (fun k => ((ok k ∧ k ≠ p) ∧ k ≠ g) ∧ k < W.heap.size) (by rfl) (by rfl) (R_mtk kB (by repeat (first | (with_reducible exact blk_new_at (by simp)) | (with_reducible refine blk_alloc ?_ _) | (with_reducible refine blk_drew ?_))) (Nat.zero_le _) (hok1'.out _ (by first | omega | (simp; omega)))) (Q_rows (Kd.Q_below hq2'.out (by repeat (first | (with_reducible exact Below.refl _ _) | (with_reducible exact hB3.out) | (with_reducible exact hB4.out) | (with_reducible exact hF3) | (with_reducible refine below_drew ?_) | (with_reducible refine below_alloc ?_ _))))) (fun _ _ hx => hx) (fun k hk => ⟨hk.1, by simp [Value.ownBlock]; omega⟩) (fun k hk => hok1'.out k (by simp at hk; omega)) (below0 (by repeat (first | (with_reducible exact Below.refl _ _) | (with_reducible exact hB3.out) | (with_reducible exact hB4.out) | (with_reducible exact hF3) | (with_reducible refine below_drew ?_) | (with_reducible refine below_alloc ?_ _)))) (Nat.zero_le _) (by simp; omega) ?_
          intro v3 w3 hR3 _ hg3 hat3
          rw [List.nil_append] at hR3
          have hB3 : Aside0 (Below W.heap.size W w3) := ⟨pw_below_grown (by repeat (first | (with_reducible exact Below.refl _ _) | (with_reducible exact hB3.out) | (with_reducible exact hB4.out) | (with_reducible exact hF3) | (with_reducible refine below_drew ?_) | (with_reducible refine below_alloc ?_ _))) _ (by simp <;> omega) hg3 (fun k e => by simp [Value.ownBlock] at e; omega)⟩
          have hfr3 : Aside0 (∀ k, v3.ownBlock = some k → W.heap.size ≤ k) := ⟨fun k e => by
            rcases hat3 with e1 | ⟨b, e1, hb⟩
            · rw [e1] at e; simp [Value.ownBlock] at e; omega
            · rw [e1] at e; cases e; simp at hb; omega⟩
          have hR3' := Aside0.mk hR3
          have hs3 : W.heap.size ≤ w3.heap.size := hB3.out.size
          refine hK.out _ _ ⟨keepx x2 (by repeat (first | (with_reducible exact Below.refl _ _) | (with_reducible exact hB3.out) | (with_reducible exact hB4.out) | (with_reducible exact hF3) | (with_reducible refine below_drew ?_) | (with_reducible refine below_alloc ?_ _))), keepy xa (by repeat (first | (with_reducible exact Below.refl _ _) | (with_reducible exact hB3.out) | (with_reducible exact hB4.out) | (with_reducible exact hF3) | (with_reducible refine below_drew ?_) | (with_reducible refine below_alloc ?_ _)))⟩ (fun hHeld => ?_)
          clear hK K
          refine norm_ (a' := Act.put _ (some 29) v3) (by rfl) ?_
          refine one_ (i := 14) (N := (some 36)) #[true, true, true, true, true, true, true, true, true, true, true, true, true, true, true, false, false, false, false] rfl rfl (by kernel_rfl) (by decide) (fun K hK => ?_)
          go_simp
          refine hK.out _ _ ⟨keepx x2 (by repeat (first | (with_reducible exact Below.refl _ _) | (with_reducible exact hB3.out) | (with_reducible exact hB4.out) | (with_reducible exact hF3) | (with_reducible refine below_drew ?_) | (with_reducible refine below_alloc ?_ _))), keepy xa (by repeat (first | (with_reducible exact Below.refl _ _) | (with_reducible exact hB3.out) | (with_reducible exact hB4.out) | (with_reducible exact hF3) | (with_reducible refine below_drew ?_) | (with_reducible refine below_alloc ?_ _)))⟩ (fun hHeld => ?_)
          clear hK K
          exact norm_ (by simp only [putAll, Act.put, List.setIfInBounds_toArray, List.set_cons_zero, List.set_cons_succ, i64_w, i32_w]) (hj (W.heap.size, v3, w3.heap.size) _ ⟨(Kd.R_below hR3'.out (by repeat (first | (with_reducible exact Below.refl _ _) | (with_reducible refine below_drew ?_) | (with_reducible refine below_alloc ?_ _)))), one25 hM'.out (by repeat (first | (with_reducible exact blk_new_at (by simp)) | (with_reducible refine blk_grown ?_ hg3 (by simp [Value.ownBlock])) | (with_reducible refine blk_alloc ?_ _) | (with_reducible refine blk_drew ?_))) (by repeat (first | (with_reducible exact Below.refl _ _) | (with_reducible exact hB3.out) | (with_reducible exact hB4.out) | (with_reducible exact hF3) | (with_reducible refine below_drew ?_) | (with_reducible refine below_alloc ?_ _))), (by repeat (first | (with_reducible exact Below.refl _ _) | (with_reducible exact hB3.out) | (with_reducible exact hB4.out) | (with_reducible exact hF3) | (with_reducible refine below_drew ?_) | (with_reducible refine below_alloc ?_ _))), hfr3.out⟩)
        · go_simp
          refine hK.out _ _ ⟨keepx x2 (by repeat (first | (with_reducible exact Below.refl _ _) | (with_reducible exact hB3.out) | (with_reducible exact hB4.out) | (with_reducible exact hF3) | (with_reducible refine below_drew ?_) | (with_reducible refine below_alloc ?_ _))), keepy xa (by repeat (first | (with_reducible exact Below.refl _ _) | (with_reducible exact hB3.out) | (with_reducible exact hB4.out) | (with_reducible exact hF3) | (with_reducible refine below_drew ?_) | (with_reducible refine below_alloc ?_ _)))⟩ (fun hHeld => ?_)
          clear hK K
          refine one_ (i := 7) (N := (some 29)) #[true, true, true, true, true, true, true, true, true, true, true, true, true, true, true, false, false, false, false] rfl rfl (by kernel_rfl) (by decide) (fun K hK => ?_)
          refine Kd.R_append_rows_step kB (w0 := W) 0 (by rfl) (.tmp 23) (.tmp 28) 117 25 (.slice none 0 0) 24 (by rfl) Try.underlying117 info25 rfl (by decide) (by decide) _ [] r A3 r.length c3 (fun k => (ok k ∧ k ≠ p) ∧ k ≠ g) (fun k => ((ok k ∧ k ≠ p) ∧ k ≠ g) ∧ k < W.heap.size) (by rfl) (by rfl) (R_mtk kB (by repeat (first | (with_reducible exact blk_new_at (by simp)) | (with_reducible refine blk_alloc ?_ _) | (with_reducible refine blk_drew ?_))) (Nat.zero_le _) (hok1'.out _ (by first | omega | (simp; omega)))) (Q_rows (Kd.Q_below hq2'.out (by repeat (first | (with_reducible exact Below.refl _ _) | (with_reducible exact hB3.out) | (with_reducible exact hB4.out) | (with_reducible exact hF3) | (with_reducible refine below_drew ?_) | (with_reducible refine below_alloc ?_ _))))) (fun _ _ hx => hx) (fun k hk => ⟨hk.1, by simp [Value.ownBlock]; omega⟩) (fun k hk => hok1'.out k (by simp at hk; omega)) (below0 (by repeat (first | (with_reducible exact Below.refl _ _) | (with_reducible exact hB3.out) | (with_reducible exact hB4.out) | (with_reducible exact hF3) | (with_reducible refine below_drew ?_) | (with_reducible refine below_alloc ?_ _)))) (Nat.zero_le _) (by simp; omega) ?_
          intro v3 w3 hR3 _ hg3 hat3
          rw [List.nil_append] at hR3
          have hB3 : Aside0 (Below W.heap.size W w3) := ⟨pw_below_grown (by repeat (first | (with_reducible exact Below.refl _ _) | (with_reducible exact hB3.out) | (with_reducible exact hB4.out) | (with_reducible exact hF3) | (with_reducible refine below_drew ?_) | (with_reducible refine below_alloc ?_ _))) _ (by simp <;> omega) hg3 (fun k e => by simp [Value.ownBlock] at e; omega)⟩
          have hfr3 : Aside0 (∀ k, v3.ownBlock = some k → W.heap.size ≤ k) := ⟨fun k e => by
            rcases hat3 with e1 | ⟨b, e1, hb⟩
            · rw [e1] at e; simp [Value.ownBlock] at e; omega
            · rw [e1] at e; cases e; simp at hb; omega⟩
          have hR3' := Aside0.mk hR3
          have hs3 : W.heap.size ≤ w3.heap.size := hB3.out.size
          refine hK.out _ _ ⟨keepx x2 (by repeat (first | (with_reducible exact Below.refl _ _) | (with_reducible exact hB3.out) | (with_reducible exact hB4.out) | (with_reducible exact hF3) | (with_reducible refine below_drew ?_) | (with_reducible refine below_alloc ?_ _))), keepy xa (by repeat (first | (with_reducible exact Below.refl _ _) | (with_reducible exact hB3.out) | (with_reducible exact hB4.out) | (with_reducible exact hF3) | (with_reducible refine below_drew ?_) | (with_reducible refine below_alloc ?_ _)))⟩ (fun hHeld => ?_)
          clear hK K
          refine norm_ (a' := Act.put _ (some 29) v3) (by rfl) ?_
          exact norm_ (by simp only [putAll, Act.put, List.setIfInBounds_toArray, List.set_cons_zero, List.set_cons_succ, i64_w, i32_w]) (hj (W.heap.size, v3, W.heap.size + 1) _ ⟨hR3'.out, one25 hM'.out (by repeat (first | (with_reducible exact blk_new_at (by simp)) | (with_reducible refine blk_grown ?_ hg3 (by simp [Value.ownBlock])) | (with_reducible refine blk_alloc ?_ _) | (with_reducible refine blk_drew ?_))) (by repeat (first | (with_reducible exact Below.refl _ _) | (with_reducible exact hB3.out) | (with_reducible exact hB4.out) | (with_reducible exact hF3) | (with_reducible refine below_drew ?_) | (with_reducible refine below_alloc ?_ _))), (by repeat (first | (with_reducible exact Below.refl _ _) | (with_reducible exact hB3.out) | (with_reducible exact hB4.out) | (with_reducible exact hF3) | (with_reducible refine below_drew ?_) | (with_reducible refine below_alloc ?_ _))), hfr3.out⟩)
      · go_simp
        refine hK.out _ _ ⟨keepx x2 (by repeat (first | (with_reducible exact Below.refl _ _) | (with_reducible exact hB3.out) | (with_reducible exact hB4.out) | (with_reducible exact hF3) | (with_reducible refine below_drew ?_) | (with_reducible refine below_alloc ?_ _))), keepy xa (by repeat (first | (with_reducible exact Below.refl _ _) | (with_reducible exact hB3.out) | (with_reducible exact hB4.out) | (with_reducible exact hF3) | (with_reducible refine below_drew ?_) | (with_reducible refine below_alloc ?_ _)))⟩ (fun hHeld => ?_)
        clear hK K
        refine one_ (i := 1) (N := (some 23)) #[true, true, true, true, true, true, true, false, true, true, true, true, true, true, true, false, false, false, false] rfl rfl (by kernel_rfl) (by decide) (fun K hK => ?_)
        go_simp
        refine hK.out _ _ ⟨keepx x2 (by repeat (first | (with_reducible exact Below.refl _ _) | (with_reducible exact hB3.out) | (with_reducible exact hB4.out) | (with_reducible exact hF3) | (with_reducible refine below_drew ?_) | (with_reducible refine below_alloc ?_ _))), keepy xa (by repeat (first | (with_reducible exact Below.refl _ _) | (with_reducible exact hB3.out) | (with_reducible exact hB4.out) | (with_reducible exact hF3) | (with_reducible refine below_drew ?_) | (with_reducible refine below_alloc ?_ _)))⟩ (fun hHeld => ?_)
        clear hK K
        refine one_ (i := 7) (N := (some 29)) #[true, true, true, true, true, true, true, true, true, true, true, true, true, true, true, false, false, false, false] rfl rfl (by kernel_rfl) (by decide) (fun K hK => ?_)
        refine Kd.R_append_rows_step kB (w0 := W) 0 (by rfl) (.tmp 23) (.tmp 28) 117 25 (.slice none 0 0) 24 (by rfl) Try.underlying117 info25 rfl (by decide) (by decide) _ [] r A3 r.length c3 (fun k => (ok k ∧ k ≠ p) ∧ k ≠ g) (fun k => ((ok k ∧ k ≠ p) ∧ k ≠ g) ∧ k < W.heap.size) (by rfl) (by rfl) (R_mtk kB (by repeat (first | (with_reducible exact blk_new_at (by simp)) | (with_reducible refine blk_alloc ?_ _) | (with_reducible refine blk_drew ?_))) (Nat.zero_le _) (hok1'.out _ (by first | omega | (simp; omega)))) (Q_rows (Kd.Q_below hq2'.out (by repeat (first | (with_reducible exact Below.refl _ _) | (with_reducible exact hB3.out) | (with_reducible exact hB4.out) | (with_reducible exact hF3) | (with_reducible refine below_drew ?_) | (with_reducible refine below_alloc ?_ _))))) (fun _ _ hx => hx) (fun k hk => ⟨hk.1, by simp [Value.ownBlock]; omega⟩) (fun k hk => hok1'.out k (by simp at hk; omega)) (below0 (by repeat (first | (with_reducible exact Below.refl _ _) | (with_reducible exact hB3.out) | (with_reducible exact hB4.out) | (with_reducible exact hF3) | (with_reducible refine below_drew ?_) | (with_reducible refine below_alloc ?_ _)))) (Nat.zero_le _) (by simp; omega) ?_
        intro v3 w3 hR3 _ hg3 hat3
        rw [List.nil_append] at hR3
        have hB3 : Aside0 (Below W.heap.size W w3) := ⟨pw_below_grown (by repeat (first | (with_reducible exact Below.refl _ _) | (with_reducible exact hB3.out) | (with_reducible exact hB4.out) | (with_reducible exact hF3) | (with_reducible refine below_drew ?_) | (with_reducible refine below_alloc ?_ _))) _ (by simp <;> omega) hg3 (fun k e => by simp [Value.ownBlock] at e; omega)⟩
        have hfr3 : Aside0 (∀ k, v3.ownBlock = some k → W.heap.size ≤ k) := ⟨fun k e => by
          rcases hat3 with e1 | ⟨b, e1, hb⟩
          · rw [e1] at e; simp [Value.ownBlock] at e; omega
          · rw [e1] at e; cases e; simp at hb; omega⟩
        have hR3' := Aside0.mk hR3
        have hs3 : W.heap.size ≤ w3.heap.size := hB3.out.size
        refine hK.out _ _ ⟨keepx x2 (by repeat (first | (with_reducible exact Below.refl _ _) | (with_reducible exact hB3.out) | (with_reducible exact hB4.out) | (with_reducible exact hF3) | (with_reducible refine below_drew ?_) | (with_reducible refine below_alloc ?_ _))), keepy xa (by repeat (first | (with_reducible exact Below.refl _ _) | (with_reducible exact hB3.out) | (with_reducible exact hB4.out) | (with_reducible exact hF3) | (with_reducible refine below_drew ?_) | (with_reducible refine below_alloc ?_ _)))⟩ (fun hHeld => ?_)
        clear hK K
        refine norm_ (a' := Act.put _ (some 29) v3) (by rfl) ?_
        exact norm_ (by simp only [putAll, Act.put, List.setIfInBounds_toArray, List.set_cons_zero, List.set_cons_succ, i64_w, i32_w]) (hj (W.heap.size + 1, v3, W.heap.size) _ ⟨hR3'.out, one25 hM'.out (by repeat (first | (with_reducible exact blk_new_at (by simp)) | (with_reducible refine blk_grown ?_ hg3 (by simp [Value.ownBlock])) | (with_reducible refine blk_alloc ?_ _) | (with_reducible refine blk_drew ?_))) (by repeat (first | (with_reducible exact Below.refl _ _) | (with_reducible exact hB3.out) | (with_reducible exact hB4.out) | (with_reducible exact hF3) | (with_reducible refine below_drew ?_) | (with_reducible refine below_alloc ?_ _))), (by repeat (first | (with_reducible exact Below.refl _ _) | (with_reducible exact hB3.out) | (with_reducible exact hB4.out) | (with_reducible exact hF3) | (with_reducible refine below_drew ?_) | (with_reducible refine below_alloc ?_ _))), hfr3.out⟩)
  case rest =>
    obtain ⟨h5, h6⟩ := hcut
    go_wp2_with fail
    go_ret
    exact ⟨rfl, h5.out, hk'.out.trans h6.out⟩
end Go.Proofs.Ytjghlomkimoeoaa.Lnk
