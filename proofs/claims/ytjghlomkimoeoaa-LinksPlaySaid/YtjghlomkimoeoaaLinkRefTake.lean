/- The document's Take, walked. -/
import Derived.Test.YtjghlomkimoeoaaLinkRefSend
namespace Go.Proofs.Ytjghlomkimoeoaa.Lnk
open Go.RowKit Go.Proofs.YtjghlomkimoeoaaW.PrintWords Go.Proofs.YtjghlomkimoeoaaW.PrintLast Go.Proofs.YtjghlomkimoeoaaW.PrintMore Go.Proofs.Ytjghlomkimoeoaa.PLinksPlay
open Amap Stp
set_option linter.unusedVariables false
set_option linter.unusedSimpArgs false
theorem rfind_twice (R : RSt) (k : Key) : rfind (rfind R k) k = rfind R k := by
  cases hl : mlook R.L k with
  | some v => unfold rfind; rw [hl]; simp only []; rw [hl]
  | none =>
    have e : rfind R k = ⟨R.parties, R.L ++ [(k, [])]⟩ := by unfold rfind; rw [hl]
    rw [e]
    have h2 : mlook (R.L ++ [(k, ([] : List (List Int)))]) k = some [] := by
      clear e
      revert hl
      generalize R.L = L
      intro hl
      induction L with
      | nil => simp [mlook]
      | cons q L ih =>
        simp only [mlook] at hl
        split at hl
        · cases hl
        · rename_i hne
          simp only [List.cons_append, mlook, if_neg hne]
          exact ih hl
    unfold rfind
    simp only []
    rw [h2]
theorem cuts {w : World} {ok : Nat → Prop} {A2 : Option Addr} {m c2 : Nat} {ys : List (List Int)} (hq : Kd.Q kB 25 w 0 ok (.slice A2 m c2) ys) {n : Nat} (hn : n < m) :
    (∀ W : World, (Instr.slice 117 (.slice A2 m c2) none (some (.int .i64 (n : Int))) none).run Try.prog W = .ok (.slice A2 n c2) W) ∧ Kd.Q kB 25 w 0 ok (.slice A2 n c2) (ys.take n) ∧
      ∃ A' c', (∀ W : World, (Instr.slice 117 (.slice A2 m c2) (some (.int .i64 ((n : Int) + 1))) none none).run Try.prog W = .ok (.slice A' (m - (n + 1)) c') W) ∧ Kd.Q kB 25 w 0 ok (.slice A' (m - (n + 1)) c') (ys.drop (n + 1)) := by
  obtain ⟨hm, hmc, _⟩ := Kd.Q_reads' hq
  obtain ⟨i0, hi0, hz⟩ := Option.map_eq_some_iff.1 info25
  simp only [Prod.mk.injEq] at hz
  have h1 := cut_to (P := Try.prog) 117 25 .i64 Try.underlying117 hi0 A2 m c2 (n : Int) (by omega) (by omega) hmc
  rw [show ((n : Int)).toNat = n from by simp] at h1
  have h2 := cut_from (P := Try.prog) 117 25 .i64 Try.underlying117 hi0 1 hz.2.1 A2 m c2 ((n : Int) + 1) (by omega) (by omega)
  rw [show ((n : Int) + 1).toNat = n + 1 from by omega] at h2
  have h3 := Kd.Q_drop (k := n + 1) hq (by omega)
  exact ⟨h1, Kd.Q_take hq (by omega), _, _, h2, h3⟩
theorem erase_eq {α : Type} (ys : List α) (n : Nat) : ys.take n ++ ys.drop (n + 1) = ys.eraseIdx n := (List.eraseIdx_eq_take_drop_succ ys n).symm
theorem keepx {W cur : World} {g j : Nat} {u : Value} (hx : W.cell? ⟨g, j, none⟩ = some u) (hb : Below W.heap.size W cur) : cur.cell? ⟨g, j, none⟩ = some u :=
  (hb.cell (p := ⟨g, j, none⟩) (World.block_lt_of_cell? W _ hx)).trans hx
theorem below0 {W w1 : World} (h : Below W.heap.size W w1) : Below 0 W w1 := h.mono (Nat.zero_le _)
theorem keepy {W cur : World} {ad : Addr} {u : Value} (hx : W.cell? ad = some u) (hb : Below W.heap.size W cur) : cur.cell? ad = some u := (hb.cell (World.block_lt_of_cell? W _ hx)).trans hx
set_option maxHeartbeats 2000000 in
set_option maxRecDepth 100000 in
theorem RTake_none (R : RSt) (a c j : Int) (hp : (rpeek R (a, c) j).2 = none) (hn : (R.L.map (·.1)).Nodup) (hl : R.L.length ≤ 800) (ok : Nat → Prop) (p : Nat) (w : World) (hok : ∀ k, w.heap.size ≤ k → ok k) (h : IsR ok w p R) :
    Calls Try.prog 34 #[.pointer (some ⟨p, 0, none⟩), .int .i64 a, .int .i64 c, .int .i64 j] w fun e w' => e = .returned (.tuple #[.slice none 0 0, .bool false]) ∧ IsR ok w' p (rtake R (a, c) j) ∧ Fy ok w w' := by
  have hpk := Aside0.mk (RPeek_none R a c j hp hn (by omega) ok p w hok h)
  have hr : rtake R (a, c) j = (rpeek R (a, c) j).1 := by unfold rtake; rw [hp]
  rw [hr]
  clear hr hp h
  go_enter Try.func34, Try.ntmps34
  go_wp2_with fail
  refine hpk.out.mono ?_
  rintro e w1 ⟨rfl, h1, h2⟩
  have h1' := Aside0.mk h1
  have h2' := Aside0.mk h2
  clear h1 h2
  go_wp2
  go_ret2
  exact ⟨rfl, h1'.out, h2'.out⟩
set_option maxHeartbeats 4000000 in
set_option maxRecDepth 100000 in
theorem RTake_some (R : RSt) (a c j : Int) (x : List Int) (hp : (rpeek R (a, c) j).2 = some x) (hx : x.length ≤ 1000000) (htt : tot R.L ≤ 100) (hn : (R.L.map (·.1)).Nodup) (hl : R.L.length ≤ 800) (ok : Nat → Prop) (p : Nat) (w : World) (hok : ∀ k, w.heap.size ≤ k → ok k) (h : IsR ok w p R) :
    Calls Try.prog 34 #[.pointer (some ⟨p, 0, none⟩), .int .i64 a, .int .i64 c, .int .i64 j] w fun e w' => ∃ A2 c2, e = .returned (.tuple #[.slice A2 x.length c2, .bool true]) ∧ Kd.R (Kd.int .u8) 5 w' w.heap.size (fun _ => True) (.slice A2 x.length c2) x ∧ IsR ok w' p (rtake R (a, c) j) ∧ Fy ok w w' := by
  have hll : (line R.L (a, c)).length ≤ 100 := by have := tot_put R.L (a, c) []; simp at this; omega
  have ht : rthere R (a, c) = true := by
    cases ht : rthere R (a, c) with
    | true => rfl
    | false => unfold rpeek at hp; rw [ht, if_pos rfl] at hp; cases hp
  have hr1 : rpeek R (a, c) j = (rfind R (a, c), if 0 ≤ j then (line R.L (a, c))[j.toNat]? else none) := by unfold rpeek; rw [ht, if_neg (by simp)]
  have hpk := Aside0.mk (RPeek_some R a c j x hp hn (by omega) (by omega) hx ok p w hok h)
  have hr : rtake R (a, c) j = ⟨R.parties, mput (rfind R (a, c)).L (a, c) ((line R.L (a, c)).eraseIdx j.toNat)⟩ := by unfold rtake; rw [hp]
  rw [hr1] at hp hpk
  have hj : 0 ≤ j ∧ j < (line R.L (a, c)).length := by
    simp only [] at hp
    split at hp
    · rename_i h0
      have := (List.getElem?_eq_some_iff.1 hp).1
      exact ⟨h0, by omega⟩
    · cases hp
  obtain ⟨n, rfl⟩ : ∃ n : Nat, j = (n : Int) := ⟨j.toNat, by omega⟩
  rw [show ((n : Int)).toNat = n from by simp] at hr
  rw [hr]
  have htf : rthere (rfind R (a, c)) (a, c) = true := by
    have : rthere (rfind R (a, c)) (a, c) = rthere R (a, c) := by rw [rthere_eq, rthere_eq, rfind_par]
    rw [this]; exact ht
  have hlr := len_rfind R (a, c)
  have hfd := Aside0.mk (fun (w1 : World) (hsz : w.heap.size ≤ w1.heap.size) (h1 : IsR ok w1 p (rfind R (a, c))) => find_yes (rfind R (a, c)) a c htf (nd_rfind hn (a, c)) (by omega) ok p w1 (fun k hk => hok k (by omega)) h1)
  rw [rfind_twice] at hfd
  have hnr := Aside0.mk (nd_rfind hn (a, c))
  have hln := Aside0.mk (rfind_line R (a, c) (a, c))
  have hok' := Aside0.mk hok
  have hwr : IntKind.i64.wrap ((n : Int) + 1) = (n : Int) + 1 := wrap_small n (by omega)
  obtain ⟨ys, hys⟩ : ∃ ys, line R.L (a, c) = ys := ⟨_, rfl⟩
  rw [hys] at hll hln ⊢
  have hnm : n < ys.length := by rw [hys] at hj; omega
  clear hr hr1 hp h ht htf hlr hn htt hl hok hys hj
  obtain ⟨R1, hR1⟩ : ∃ R1, rfind R (a, c) = R1 := ⟨_, rfl⟩
  have hpar := Aside0.mk (rfind_par R (a, c))
  rw [hR1] at hpk hfd hnr hln hpar ⊢
  rw [← hpar.out]
  clear hR1 hpar
  go_enter Try.func34, Try.ntmps34
  go_wp2_with fail
  refine hpk.out.mono ?_
  rintro e w1 ⟨A4, c4, rfl, hR, h1, h2⟩
  have h1' := Aside0.mk h1
  have h2' := Aside0.mk h2
  have hR' := Aside0.mk hR
  clear h1 h2 hR hpk
  go_wp2_with fail
  refine (hfd.out w1 h2'.out.size h1'.out).mono ?_
  rintro e W ⟨g, cap, i, rfl, hA, hk⟩
  obtain ⟨A2, c2, x2, f2, hq⟩ := hA.cells
  rw [hln.out] at x2 hq
  obtain ⟨hcut1, hq1, A3, c3, hcut2, hq2⟩ := cuts (Kd.Q_mono (Kd.Q_bound (Kd.Q_of_R hq)) (ok' := fun k => ((ok k ∧ k ≠ p) ∧ k ≠ g) ∧ k < W.heap.size) (fun k hk => ⟨hk.1, hk.2.2.1⟩)) hnm
  have hys' : Aside0 (ys.take n ++ ys.drop (n + 1) = ys.eraseIdx n) := ⟨erase_eq ys n⟩
  have htl : (ys.take n).length = n := by rw [List.length_take]; omega
  have hdl : (ys.drop (n + 1)).length = ys.length - (n + 1) := by rw [List.length_drop]
  have hg1 : g < W.heap.size := World.block_lt_of_cell? W _ x2
  have hp1 : p < W.heap.size := blk_lt hA.at_.blk
  have hs1 : w.heap.size ≤ W.heap.size := Nat.le_trans h2'.out.size hk.size
  have hok1' : Aside0 (∀ k, W.heap.size ≤ k → (ok k ∧ k ≠ p) ∧ k ≠ g) := ⟨fun k hk => ⟨⟨hok'.out k (by omega), by omega⟩, by omega⟩⟩
  have hRW := Aside0.mk (hk.C hR'.out)
  have hA' := Aside0.mk hA
  have hk' := Aside0.mk (h2'.out.trans hk)
  have hq1' := Aside0.mk hq1
  have hq2' := Aside0.mk hq2
  have htl' := Aside0.mk htl
  have hdl' := Aside0.mk hdl
  have x2' := Aside0.mk x2
  have f2' := Aside0.mk f2
  obtain ⟨m, hm⟩ : ∃ m, ys.length = m := ⟨_, rfl⟩
  rw [hm] at x2 hcut1 hcut2 hnm hll
  have hm' := Aside0.mk hm
  clear hA hk hq hq1 hq2 htl hdl hm hfd h1' h2' hR' f2
  go_upto_region 4 with fail
  go_cut [] (fun wx => Aside0 (IsR ok wx p ⟨R1.parties, mput R1.L (a, c) (ys.eraseIdx n)⟩) ∧ Aside0 (Fy ok W wx))
  case first =>
    refine start_ (n := 20) (S := fun w' => w'.cell? ⟨g, i * 3 + 2, none⟩ = some (.slice A2 m c2)) (ds := [19]) #[false, false, false, false, false, false, false, false, false, false, false, false, false, false, false, false, false, false, false, false] (by kernel_rfl) rfl rfl x2 (fun hHeld => ?_)
    refine pure_ (i := 0) (N := (some 26)) (v := ?_) (a' := ?_) #[true, false, false, false, false, false, false, false, false, false, false, false, false, false, false, false, false, false, false, false] rfl rfl (by kernel_rfl) (fun _ _ _ h => h) (Or.inl ⟨by rfl, ?_⟩) ?_ ?_
    rotate_left
    · intro w'
      go_simp
      with_reducible rfl
    rotate_left
    · simp only [Act.put, List.setIfInBounds_toArray, List.set_cons_zero, List.set_cons_succ, i64_w, i32_w]
      rfl
    refine pure_ (i := 2) (N := (some 28)) (v := ?_) (a' := ?_) #[true, false, true, false, false, false, false, false, false, false, false, false, false, false, false, false, false, false, false, false] rfl rfl (by kernel_rfl) (fun _ _ _ h => h) (Or.inl ⟨by rfl, ?_⟩) ?_ ?_
    rotate_left
    · intro w'
      go_simp
      with_reducible rfl
    rotate_left
    · simp only [Act.put, List.setIfInBounds_toArray, List.set_cons_zero, List.set_cons_succ, i64_w, i32_w]
      rfl
    refine pure_ (i := 3) (N := (some 29)) (v := ?_) (a' := ?_) #[true, false, true, true, false, false, false, false, false, false, false, false, false, false, false, false, false, false, false, false] rfl rfl (by kernel_rfl) (fun _ _ _ h => h) (Or.inl ⟨by rfl, ?_⟩) ?_ ?_
    rotate_left
    · intro w'
      go_simp
      with_reducible rfl
    rotate_left
    · simp only [Act.put, List.setIfInBounds_toArray, List.set_cons_zero, List.set_cons_succ, i64_w, i32_w]
      rfl
    refine pure_ (i := 4) (N := (some 30)) (v := ?_) (a' := ?_) #[true, false, true, true, true, false, false, false, false, false, false, false, false, false, false, false, false, false, false, false] rfl rfl (by kernel_rfl) (fun _ _ _ h => h) (Or.inl ⟨by rfl, ?_⟩) ?_ ?_
    rotate_left
    · intro w'
      go_simp
      with_reducible rfl
    rotate_left
    · simp only [Act.put, List.setIfInBounds_toArray, List.set_cons_zero, List.set_cons_succ, i64_w, i32_w]
      rfl
    refine take_ (i := 5) (N := (some 31)) (v := ?_) (a' := ?_) #[true, false, true, true, true, true, false, false, false, false, false, false, false, false, false, false, false, false, false, false] rfl rfl (by kernel_rfl) (fun _ _ _ h => h) (Or.inl ⟨by rfl, ?_⟩) hHeld ?_ ?_
    rotate_left
    · rintro w' s0
      go_simp
      with_reducible rfl
    rotate_left
    · simp only [Act.put, List.setIfInBounds_toArray, List.set_cons_zero, List.set_cons_succ, i64_w, i32_w]
      rfl
    refine pure_ (i := 6) (N := (some 32)) (v := ?_) (a' := ?_) #[true, false, true, true, true, true, true, false, false, false, false, false, false, false, false, false, false, false, false, false] rfl rfl (by kernel_rfl) (fun _ _ _ h => h) (Or.inl ⟨by rfl, ?_⟩) ?_ ?_
    rotate_left
    · intro w'
      go_simp
      with_reducible rfl
    rotate_left
    · simp only [Act.put, List.setIfInBounds_toArray, List.set_cons_zero, List.set_cons_succ, i64_w, i32_w]
      rfl
    refine pure_ (i := 7) (N := (some 33)) (v := ?_) (a' := ?_) #[true, false, true, true, true, true, true, true, false, false, false, false, false, false, false, false, false, false, false, false] rfl rfl (by kernel_rfl) (fun _ _ _ h => h) (Or.inl ⟨by rfl, ?_⟩) ?_ ?_
    rotate_left
    · intro w'
      go_simp
      with_reducible rfl
    rotate_left
    · simp only [Act.put, List.setIfInBounds_toArray, List.set_cons_zero, List.set_cons_succ, i64_w, i32_w]
      rfl
    refine pure_ (i := 9) (N := (some 35)) (v := ?_) (a' := ?_) #[true, false, true, true, true, true, true, true, false, true, false, false, false, false, false, false, false, false, false, false] rfl rfl (by kernel_rfl) (fun _ _ _ h => h) (Or.inl ⟨by rfl, ?_⟩) ?_ ?_
    rotate_left
    · intro w'
      go_simp
      with_reducible rfl
    rotate_left
    · simp only [Act.put, List.setIfInBounds_toArray, List.set_cons_zero, List.set_cons_succ, i64_w, i32_w]
      rfl
    refine pure_ (i := 10) (N := (some 36)) (v := ?_) (a' := ?_) #[true, false, true, true, true, true, true, true, false, true, true, false, false, false, false, false, false, false, false, false] rfl rfl (by kernel_rfl) (fun _ _ _ h => h) (Or.inl ⟨by rfl, ?_⟩) ?_ ?_
    rotate_left
    · intro w'
      go_simp
      with_reducible rfl
    rotate_left
    · simp only [Act.put, List.setIfInBounds_toArray, List.set_cons_zero, List.set_cons_succ, i64_w, i32_w]
      rfl
    refine pure_ (i := 11) (N := (some 37)) (v := ?_) (a' := ?_) #[true, false, true, true, true, true, true, true, false, true, true, true, false, false, false, false, false, false, false, false] rfl rfl (by kernel_rfl) (fun _ _ _ h => h) (Or.inl ⟨by rfl, ?_⟩) ?_ ?_
    rotate_left
    · intro w'
      go_simp
      with_reducible rfl
    rotate_left
    · simp only [Act.put, List.setIfInBounds_toArray, List.set_cons_zero, List.set_cons_succ, i64_w, i32_w]
      rfl
    refine take_ (i := 12) (N := (some 38)) (v := ?_) (a' := ?_) #[true, false, true, true, true, true, true, true, false, true, true, true, true, false, false, false, false, false, false, false] rfl rfl (by kernel_rfl) (fun _ _ _ h => h) (Or.inl ⟨by rfl, ?_⟩) hHeld ?_ ?_
    rotate_left
    · rintro w' s0
      go_simp
      with_reducible rfl
    rotate_left
    · simp only [Act.put, List.setIfInBounds_toArray, List.set_cons_zero, List.set_cons_succ, i64_w, i32_w]
      rfl
    refine pure_ (i := 13) (N := (some 39)) (v := ?_) (a' := ?_) #[true, false, true, true, true, true, true, true, false, true, true, true, true, true, false, false, false, false, false, false] rfl rfl (by kernel_rfl) (fun _ _ _ h => h) (Or.inl ⟨by rfl, ?_⟩) ?_ ?_
    rotate_left
    · intro w'
      go_simp
      with_reducible rfl
    rotate_left
    · simp only [Act.put, List.setIfInBounds_toArray, List.set_cons_zero, List.set_cons_succ, i64_w, i32_w]
      rfl
    refine pure_ (i := 14) (N := (some 40)) (v := ?_) (a' := ?_) #[true, false, true, true, true, true, true, true, false, true, true, true, true, true, true, false, false, false, false, false] rfl rfl (by kernel_rfl) (fun _ _ _ h => h) (Or.inl ⟨by rfl, ?_⟩) ?_ ?_
    rotate_left
    · intro w'
      go_simp
      with_reducible rfl
    rotate_left
    · simp only [Act.put, List.setIfInBounds_toArray, List.set_cons_zero, List.set_cons_succ, i64_w, i32_w]
      rfl
    refine pure_ (i := 15) (N := (some 41)) (v := ?_) (a' := ?_) #[true, false, true, true, true, true, true, true, false, true, true, true, true, true, true, true, false, false, false, false] rfl rfl (by kernel_rfl) (fun _ _ _ h => h) (Or.inl ⟨by rfl, ?_⟩) ?_ ?_
    rotate_left
    · intro w'
      go_simp
      with_reducible rfl
    rotate_left
    · simp only [Act.put, List.setIfInBounds_toArray, List.set_cons_zero, List.set_cons_succ, i64_w, i32_w]
      rfl
    refine one_ (i := 1) (N := (some 27)) #[true, true, true, true, true, true, true, true, false, true, true, true, true, true, true, true, false, false, false, false] rfl rfl (by kernel_rfl) (by decide) (fun K hK => ?_)
    go_simp
    refine hK.out _ _ (keepx x2 (by repeat (first | (with_reducible exact Below.refl _ _) | (with_reducible exact hB3.out) | (with_reducible exact hB4.out) | (with_reducible exact hF3) | (with_reducible refine below_drew ?_) | (with_reducible refine below_alloc ?_ _)))) (fun hHeld => ?_)
    clear hK K
    refine one_ (i := 8) (N := (some 34)) #[true, true, true, true, true, true, true, true, true, true, true, true, true, true, true, true, false, false, false, false] rfl rfl (by kernel_rfl) (by decide) (fun K hK => ?_)
    refine Kd.R_append_rows_step kB (w0 := W) 0 (by rfl) (.tmp 27) (.tmp 33) 117 25 (.slice none 0 0) 24 (by rfl) Try.underlying117 info25 rfl (by decide) (by decide) _ [] (ys.take n) A2 n c2 (fun k => (ok k ∧ k ≠ p) ∧ k ≠ g) (fun k => ((ok k ∧ k ≠ p) ∧ k ≠ g) ∧ k < W.heap.size) (by rfl) (by rfl) (R_mtk kB (by repeat (first | (with_reducible exact blk_new_at (by simp)) | (with_reducible refine blk_alloc ?_ _) | (with_reducible refine blk_drew ?_))) (Nat.zero_le _) (hok1'.out _ (by first | omega | (simp; omega)))) (Q_rows (Kd.Q_below hq1'.out (by repeat (first | (with_reducible exact Below.refl _ _) | (with_reducible exact hB3.out) | (with_reducible exact hB4.out) | (with_reducible exact hF3) | (with_reducible refine below_drew ?_) | (with_reducible refine below_alloc ?_ _))))) (fun _ _ hx => hx) (fun k hk => ⟨hk.1, by simp [Value.ownBlock]; omega⟩) (fun k hk => hok1'.out k (by simp at hk; omega)) (below0 (by repeat (first | (with_reducible exact Below.refl _ _) | (with_reducible exact hB3.out) | (with_reducible exact hB4.out) | (with_reducible exact hF3) | (with_reducible refine below_drew ?_) | (with_reducible refine below_alloc ?_ _)))) (Nat.zero_le _) (by simp; omega) ?_
    intro v3 w3 hR3 _ hg3 hat3
    rw [List.nil_append] at hR3
    have hB3 : Aside0 (Below W.heap.size W w3) := ⟨pw_below_grown (by repeat (first | (with_reducible exact Below.refl _ _) | (with_reducible exact hB3.out) | (with_reducible exact hB4.out) | (with_reducible exact hF3) | (with_reducible refine below_drew ?_) | (with_reducible refine below_alloc ?_ _))) _ (by simp <;> omega) hg3 (fun k e => by simp [Value.ownBlock] at e; omega)⟩
    have hfr3 : Aside0 (∀ k, v3.ownBlock = some k → W.heap.size ≤ k) := ⟨fun k e => by
      rcases hat3 with e1 | ⟨b, e1, hb⟩
      · rw [e1] at e; simp [Value.ownBlock] at e; omega
      · rw [e1] at e; cases e; simp at hb; omega⟩
    have hR3' := Aside0.mk hR3
    have hs3 : W.heap.size ≤ w3.heap.size := hB3.out.size
    refine hK.out _ _ (keepx x2 (by repeat (first | (with_reducible exact Below.refl _ _) | (with_reducible exact hB3.out) | (with_reducible exact hB4.out) | (with_reducible exact hF3) | (with_reducible refine below_drew ?_) | (with_reducible refine below_alloc ?_ _)))) (fun hHeld => ?_)
    clear hK K
    clear hR3 hg3 hat3
    refine norm_ (a' := Act.put _ (some 34) v3) (by rfl) ?_
    refine one_ (i := 16) (N := (some 42)) #[true, true, true, true, true, true, true, true, true, true, true, true, true, true, true, true, true, false, false, false] rfl rfl (by kernel_rfl) (by decide) (fun K hK => ?_)
    refine Kd.R_append_rows_step kB (w0 := w3) 0 (by rfl) (.tmp 34) (.tmp 41) 117 25 (.slice none 0 0) 24 (by rfl) Try.underlying117 info25 rfl (by decide) (by decide) v3 (ys.take n) (ys.drop (n + 1)) A3 (m - (n + 1)) c3 (fun k => (ok k ∧ k ≠ p) ∧ k ≠ g) (fun k => ((ok k ∧ k ≠ p) ∧ k ≠ g) ∧ k < W.heap.size) (by rfl) (by rfl) hR3'.out (Q_rows (Kd.Q_below (by rw [← hm'.out]; exact hq2'.out) hB3.out)) (fun _ _ hx => hx) (fun k hk => ⟨hk.1, fun e => by have := hfr3.out k e.symm; omega⟩) (fun k hk => hok1'.out k (by omega)) (Below.refl _ _) (Nat.zero_le _) (by rw [htl'.out]; omega) ?_
    intro v5 w5 hR5 _ hg5 _
    have hB4 : Aside0 (Below W.heap.size W w5) := ⟨pw_below_grown hB3.out _ (by omega) hg5 (fun k e => hfr3.out k e)⟩
    rw [hys'.out] at hR5
    obtain ⟨A5, c5, e5⟩ := Kd.R_slice hR5
    subst e5
    have hfin := Aside0.mk (hA'.out.store hnr.out hB4.out hR5)
    have f5 := (hB4.out.frozen (p := ⟨g, i * 3 + 2, none⟩) hg1).trans f2'.out
    clear hR5 hg5
    refine hK.out _ _ (keepx x2 (by repeat (first | (with_reducible exact Below.refl _ _) | (with_reducible exact hB3.out) | (with_reducible exact hB4.out) | (with_reducible exact hF3) | (with_reducible refine below_drew ?_) | (with_reducible refine below_alloc ?_ _)))) (fun hHeld => ?_)
    clear hK K
    refine pure_ (i := 17) (N := (some 43)) (v := ?_) (a' := ?_) #[true, true, true, true, true, true, true, true, true, true, true, true, true, true, true, true, true, true, false, false] rfl rfl (by kernel_rfl) (fun _ _ _ h => h) (Or.inl ⟨by rfl, ?_⟩) ?_ ?_
    rotate_left
    · intro w'
      go_simp
      with_reducible rfl
    rotate_left
    · simp only [Act.put, List.setIfInBounds_toArray, List.set_cons_zero, List.set_cons_succ, i64_w, i32_w]
      rfl
    refine pure_ (i := 18) (N := (some 44)) (v := ?_) (a' := ?_) #[true, true, true, true, true, true, true, true, true, true, true, true, true, true, true, true, true, true, true, false] rfl rfl (by kernel_rfl) (fun _ _ _ h => h) (Or.inl ⟨by rfl, ?_⟩) ?_ ?_
    rotate_left
    · intro w'
      go_simp
      with_reducible rfl
    rotate_left
    · simp only [Act.put, List.setIfInBounds_toArray, List.set_cons_zero, List.set_cons_succ, i64_w, i32_w]
      rfl
    refine last_ (i := 19) (N := none) #[true, true, true, true, true, true, true, true, true, true, true, true, true, true, true, true, true, true, true, true] rfl rfl (by kernel_rfl) (by decide) (fun K hK => ?_)
    have s0 := hHeld
    go_simp
    refine hK.out _ _ ?_
    clear hK K
    refine done_ (by kernel_rfl) ?_
    go_wp2_with fail
    go_meet
    exact ⟨⟨hfin.out.1⟩, ⟨hfin.out.2⟩⟩
  case rest =>
    obtain ⟨h5, h6⟩ := hcut
    go_wp2_with fail
    go_ret2
    exact ⟨A4, c4, rfl, h6.out.C hRW.out, h5.out, hk'.out.trans h6.out⟩
end Go.Proofs.Ytjghlomkimoeoaa.Lnk
