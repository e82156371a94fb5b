/- The document's Send, Double, walked. -/
import Derived.Test.YtjghlomkimoeoaaLinkRefPeek
namespace Go.Proofs.Ytjghlomkimoeoaa.Lnk
open Go.RowKit Go.Proofs.YtjghlomkimoeoaaW.PrintWords Go.Proofs.YtjghlomkimoeoaaW.PrintLast Go.Proofs.YtjghlomkimoeoaaW.PrintMore Go.Proofs.Ytjghlomkimoeoaa.PLinksPlay
open Amap Stp
set_option linter.unusedVariables false
set_option linter.unusedSimpArgs false
/-- The elements of a row, read with what they own. -/
theorem Q_rows {α : Type} {d : Kd α} {e base : Nat} {ok : Nat → Prop} {w : World} {A : Option Addr} {n c : Nat} {xs : List α} (h : d.Q e w base ok (.slice A n c) xs) : ReadsRow (d.M w base ok) d.sz w A n xs := by
  obtain ⟨_, inner, ho, hr⟩ := h
  obtain ⟨A', c', he, hl⟩ := q_slice ho
  injection he with h1 h2 h3
  subst h1; subst h2; subst h3
  refine ⟨rfl, q_max ho, fun hp => ?_⟩
  obtain ⟨ad, ha, hc⟩ := q_cells ho hp
  refine ⟨ad, ha, fun j p hj => ⟨(inner.drop (j * d.sz)).take d.sz, ?_, d.M_mono (fun k hk => hk.1) (hr.2 j p hj), fun i u hu => ?_⟩⟩
  · have hjl := (List.getElem?_eq_some_iff.1 hj).1
    have h1 : j * d.sz + d.sz ≤ inner.length := by rw [hr.1, ← Nat.succ_mul]; exact Nat.mul_le_mul_right _ hjl
    rw [List.length_take, List.length_drop]
    omega
  · refine hc _ u ?_
    rw [List.getElem?_take] at hu
    split at hu
    · rw [List.getElem?_drop] at hu
      exact hu
    · cases hu
theorem R_mtk {α : Type} (d : Kd α) {w : World} {g e base : Nat} {ok : Nat → Prop} (h : w.heap[g]? = some (.cells #[] e (0, 0))) (hb : base ≤ g) (hok : ok g) : d.R e w base ok (.slice (some ⟨g, 0, none⟩) 0 0) [] :=
  ⟨fun k hk => by simp [Value.ownBlock] at hk; subst hk; exact hok, [], ⟨by simp, .inr ⟨g, 0, #[], rfl, hb, h, Nat.le_refl _, by decide, by simp, by simp⟩⟩, Reps.none _ _⟩
/-- A link's letters are written. -/
theorem At.store {ok : Nat → Prop} {w1 w5 : World} {p : Nat} {R : RSt} {k : Key} {g cap i : Nat} (h : At ok w1 p R k g cap i) (hn : (R.L.map (·.1)).Nodup) (hB : Below w1.heap.size w1 w5) {v5 : Value} {ys : List (List Int)}
    (hR : Kd.R kB 25 w5 0 (fun k => (ok k ∧ k ≠ p) ∧ k ≠ g) v5 ys) : IsR ok (w5.setCell ⟨g, i * 3 + 2, none⟩ v5) p ⟨R.parties, mput R.L k ys⟩ ∧ Fy ok w1 (w5.setCell ⟨g, i * 3 + 2, none⟩ v5) := by
  have h5 := h.at_.below hB
  have hgk0 := h5.row.1 g (by simp [Value.ownBlock])
  have hgk : (ok g ∧ g ≠ p) ∧ True := ⟨hgk0, trivial⟩
  obtain ⟨cells, hgc⟩ := Kd.R_typed h5.row g (by simp [Value.ownBlock])
  obtain ⟨c, hcl, hM, hcc, _⟩ := Kd.R_elem h5.row ((0, 0), []) (i : Int) (by omega) (by have := h.lt; omega)
  have hge : R.L.getD ((i : Int)).toNat ((0, 0), []) = (k, line R.L k) := by simp [List.getD_eq_getElem?_getD, h.elem]
  rw [hge] at hM
  obtain ⟨A2, c2, rfl, _⟩ := kL_open hM
  have hseg := Kd.R_seg h5.row (i : Int) (by omega) (by have := h.lt; omega) (seg := [v5]) (j := 2) (okp := fun k => (ok k ∧ k ≠ p) ∧ k ≠ g) (x' := (k, ys)) hcl hcc (by simp [kL_sz]) (kL_mk (x := (k, ys)) hR) (fun _ hk => hk)
  rw [kL_sz, show ((i : Int)).toNat = i from by simp] at hseg
  obtain ⟨h6, hg6⟩ := hseg
  have e1 : (w5.setCells g (i * 3 + 2) [v5]) = w5.setCell ⟨g, i * 3 + 2, none⟩ v5 := rfl
  rw [e1] at h6 hg6
  refine ⟨⟨.slice (some ⟨g, 0, none⟩) R.L.length cap, h.at_.pk, ?_, ?_⟩, (((Fr.refl [134, 138] false 0 w1).trans (Fr.of_below (Nat.zero_le _) hB _ _)).set hgc (by simp) (Nat.zero_le _) _ _), ((Kp.refl ok w1).trans (Kp.of_below hB _)).set hgk.1.1 _ _⟩
  · exact blk_far h5.blk (fun e => hgk.1.2 e.symm) _
  · rw [mput_at hn h.elem]
    exact h6
theorem tot_rfind (R : RSt) (k : Key) : tot (rfind R k).L = tot R.L := by
  unfold rfind
  split
  · rfl
  · exact tot_snoc R.L k
theorem len_rfind (R : RSt) (k : Key) : (rfind R k).L.length ≤ R.L.length + 1 := by
  unfold rfind
  split
  · omega
  · simp
theorem nd_rfind {R : RSt} (hn : (R.L.map (·.1)).Nodup) (k : Key) : ((rfind R k).L.map (·.1)).Nodup := by
  unfold rfind
  cases hl : mlook R.L k with
  | some v => exact hn
  | none =>
    have := mput_keys_new (v := ([] : List (List Int))) hn (mlook_none.1 hl)
    rw [mput_new [] (mlook_none.1 hl)] at this
    exact this
set_option maxHeartbeats 2000000 in
set_option maxRecDepth 100000 in
theorem RSend_no (R : RSt) (a c : Int) (v : Value) (ht : rthere R (a, c) = false) (ok : Nat → Prop) (p : Nat) (w : World) (h : IsR ok w p R) :
    Calls Try.prog 33 #[.pointer (some ⟨p, 0, none⟩), .int .i64 a, .int .i64 c, v] w fun e w' => e = .returned (.int .i64 5) ∧ w = w' := by
  have hf := Aside0.mk (find_no R a c ht ok p w h)
  clear h ht
  go_enter Try.func33, Try.ntmps33
  go_wp2_with fail
  refine hf.out.mono ?_
  rintro e w1 ⟨rfl, rfl⟩
  go_wp2
  go_ret
  exact ⟨rfl, rfl⟩
set_option maxHeartbeats 2000000 in
set_option maxRecDepth 100000 in
theorem RSend_full (R : RSt) (a c : Int) (v : Value) (ht : rthere R (a, c) = true) (h100 : 100 ≤ tot R.L) (htt : tot R.L ≤ 1000) (hn : (R.L.map (·.1)).Nodup) (hl : R.L.length ≤ 900) (ok : Nat → Prop) (p : Nat) (w : World) (hok : ∀ k, w.heap.size ≤ k → ok k) (h : IsR ok w p R) :
    Calls Try.prog 33 #[.pointer (some ⟨p, 0, none⟩), .int .i64 a, .int .i64 c, v] w fun e w' => e = .returned (.int .i64 7) ∧ IsR ok w' p (rfind R (a, c)) ∧ Fy ok w w' := by
  have hf := Aside0.mk (find_yes R a c ht hn (by omega) ok p w hok h)
  have htr := tot_rfind R (a, c)
  have hlr := len_rfind R (a, c)
  have htot := Aside0.mk (fun w1 h1 => RTotal_calls (rfind R (a, c)) (by omega) (by omega) ok p w1 h1)
  rw [htr] at htot
  obtain ⟨t, ht'⟩ : ∃ t, tot R.L = t := ⟨_, rfl⟩
  rw [ht'] at htot h100 htt
  have hd : decide ((100 : Int) ≤ (t : Int)) = true := decide_eq_true (by omega)
  clear h ht htr hlr ht'
  go_enter Try.func33, Try.ntmps33
  go_wp2_with fail
  refine hf.out.mono ?_
  rintro e w1 ⟨g, cap, i, rfl, hA, hk⟩
  have hA' := Aside0.mk hA
  have hk' := Aside0.mk hk
  clear hA hk
  go_wp2_with fail
  refine (htot.out w1 hA'.out.is).mono ?_
  rintro e w2 ⟨rfl, rfl⟩
  go_wp2
  go_ret
  exact ⟨rfl, hA'.out.is, hk'.out⟩
set_option maxHeartbeats 4000000 in
set_option maxRecDepth 100000 in
theorem RSend_yes (R : RSt) (a c : Int) (ht : rthere R (a, c) = true) (h100 : tot R.L < 100) (hn : (R.L.map (·.1)).Nodup) (hl : R.L.length ≤ 900) (hll : (line R.L (a, c)).length ≤ 1000) (A : Option Addr) (cp : Nat) (x : List Int) (ok : Nat → Prop) (p : Nat) (w : World) (hok : ∀ k, w.heap.size ≤ k → ok k) (h : IsR ok w p R)
    (hC : Kd.C (Kd.int .u8) w A x.length x) (hCk : ∀ w1, Fy ok w w1 → Kd.C (Kd.int .u8) w1 A x.length x) (hx : x.length ≤ 1000000) :
    Calls Try.prog 33 #[.pointer (some ⟨p, 0, none⟩), .int .i64 a, .int .i64 c, .slice A x.length cp] w fun e w' => e = .returned (.int .i64 0) ∧ IsR ok w' p ⟨R.parties, mput (rfind R (a, c)).L (a, c) (line R.L (a, c) ++ [x])⟩ ∧ Fy ok w w' := by
  have hf := Aside0.mk (find_yes R a c ht hn (by omega) ok p w hok h)
  have htr := tot_rfind R (a, c)
  have hlr := len_rfind R (a, c)
  have htot := Aside0.mk (fun w1 h1 => RTotal_calls (rfind R (a, c)) (by omega) (by omega) ok p w1 h1)
  rw [htr] at htot
  obtain ⟨t, ht'⟩ : ∃ t, tot R.L = t := ⟨_, rfl⟩
  rw [ht'] at htot h100
  have hd : decide ((100 : Int) ≤ (t : Int)) = false := decide_eq_false (by omega)
  have hnr := Aside0.mk (nd_rfind hn (a, c))
  have hln := Aside0.mk (rfind_line R (a, c) (a, c))
  have hok' := Aside0.mk hok
  have hCk' := Aside0.mk hCk
  clear h ht htr hlr ht' hn hok hC hCk
  obtain ⟨ys, hys⟩ : ∃ ys, line R.L (a, c) = ys := ⟨_, rfl⟩
  rw [hys] at hll ⊢ hln
  clear hys
  go_enter Try.func33, Try.ntmps33
  go_wp2_with fail
  refine hf.out.mono ?_
  rintro e w1 ⟨g, cap, i, rfl, hA, hk⟩
  obtain ⟨A2, c2, x2, f2, hq⟩ := hA.cells
  rw [hln.out] at x2 hq
  have hg1 : g < w1.heap.size := World.block_lt_of_cell? w1 _ x2
  have hp1 : p < w1.heap.size := blk_lt hA.at_.blk
  have hs1 : w.heap.size ≤ w1.heap.size := hk.size
  have hok1 : ∀ k, w1.heap.size ≤ k → (ok k ∧ k ≠ p) ∧ k ≠ g := fun k hk => ⟨⟨hok'.out k (by omega), by omega⟩, by omega⟩
  have hC1 := Aside0.mk (hCk'.out w1 hk)
  have hA' := Aside0.mk hA
  have hk' := Aside0.mk hk
  have hq' : Aside0 (Kd.Q kB 25 w1 0 (fun k => ((ok k ∧ k ≠ p) ∧ k ≠ g) ∧ k < w1.heap.size) (.slice A2 ys.length c2) ys) := ⟨Kd.Q_mono (Kd.Q_bound (Kd.Q_of_R hq)) (fun k hk => ⟨hk.1, hk.2.2.1⟩)⟩
  have hok1' := Aside0.mk hok1
  clear hA hk hq hok1
  go_wp2_with fail
  refine (htot.out w1 hA'.out.is).mono ?_
  rintro e w2 ⟨rfl, rfl⟩
  have hR0 : Aside0 (Kd.R kB 25 (w1.alloc (.cells #[] 25)) 0 (fun k => (ok k ∧ k ≠ p) ∧ k ≠ g) (.slice (some ⟨w1.heap.size, 0, none⟩) 0 0) []) := ⟨R_mtk kB (blk_new _ _) (Nat.zero_le _) (hok1'.out _ (Nat.le_refl _))⟩
  have hq0 : Aside0 (ReadsRow (kB.M (w1.alloc (.cells #[] 25)) 0 (fun k => ((ok k ∧ k ≠ p) ∧ k ≠ g) ∧ k < w1.heap.size)) 1 (w1.alloc (.cells #[] 25)) A2 ys.length ys) := ⟨Q_rows (Kd.Q_below hq'.out (below_alloc (Below.refl _ _) _))⟩
  go_wp2_with (first
    | ((with_reducible refine gate_builtin (b := .append) (xs := #[.tmp 20, .tmp 24]) rfl ?_); at_builtin
       refine Kd.R_append_rows kB (w0 := w1.alloc (.cells #[] 25)) 0 rfl (.tmp 20) (.tmp 24) 117 25 (.slice none 0 0) 24 rfl Try.underlying117 info25 rfl (by decide) (by decide) (.slice (some ⟨w1.heap.size, 0, none⟩) 0 0) [] ys A2 ys.length c2 (fun k => (ok k ∧ k ≠ p) ∧ k ≠ g) (fun k => ((ok k ∧ k ≠ p) ∧ k ≠ g) ∧ k < w1.heap.size) rfl rfl hR0.out hq0.out (fun _ _ hx => hx) (fun k hk => ⟨hk.1, by simp [Value.ownBlock]; omega⟩) (fun k hk => hok1'.out k (by simp at hk; omega)) (Below.refl _ _) (Nat.zero_le _) (by simp; omega) ?_
       intro v3 w3 hR3 _ hg3 hat3
       rw [List.nil_append] at hR3
       have hB3 : Aside0 (Below w1.heap.size w1 w3) := ⟨pw_below_grown (below_alloc (Below.refl _ _) _) _ (by simp) hg3 (fun k e => by simp [Value.ownBlock] at e; omega)⟩
       have hfr3 : Aside0 (∀ k, v3.ownBlock = some k → w1.heap.size ≤ k) := ⟨fun k e => by
         rcases hat3 with e1 | ⟨b, e1, hb⟩
         · rw [e1] at e; simp [Value.ownBlock] at e; omega
         · rw [e1] at e; cases e; simp at hb; omega⟩
       have hR3' := Aside0.mk hR3
       have hs3 : w1.heap.size ≤ w3.heap.size := hB3.out.size
       have hRb : Aside0 (Kd.R (Kd.int .u8) 5 (w3.alloc (.cells #[] 5)) w3.heap.size (fun _ => True) (.slice (some ⟨w3.heap.size, 0, none⟩) 0 0) []) := ⟨Kd.R_of_own (own_lit w3 w3.heap.size 5 .u8 [] (Nat.le_refl _) (by simp)) (fun _ _ => trivial)⟩
       clear hR3 hg3 hat3)
    | ((with_reducible refine gate_builtin (b := .append) (xs := #[.tmp 26, .tmp 27]) rfl ?_); at_builtin
       refine Kd.R_append_row (Value.int .u8) 0 (w0 := w3) w3.heap.size rfl (.tmp 26) (.tmp 27) 25 5 (.int .u8 0) 1 rfl Try.underlying25 info5 rfl (by decide) (.slice (some ⟨w3.heap.size, 0, none⟩) 0 0) [] x A x.length cp (fun _ => True) rfl rfl (fun _ _ => trivial) hRb.out (Kd.C_below (Kd.C_below hC1.out hB3.out) (below_alloc (Below.refl _ _) _)) (below_alloc (Below.refl _ _) _) (by simp) (by simp; omega) ?_
       intro v4 w4 hR4 hB4 hg4 hat4
       rw [List.nil_append] at hR4
       obtain ⟨A4, c4, e4⟩ := Kd.R_slice hR4
       subst e4
       have hR4' := Aside0.mk hR4
       have hB4' := Aside0.mk hB4
       have hs4 : w3.heap.size ≤ w4.heap.size := hB4.size
       clear hg4 hat4 hR4 hB4)
    | ((with_reducible refine gate_builtin (b := .append) (xs := #[.tmp 25, .tmp 29]) rfl ?_); at_builtin
       refine Kd.R_append kB (w0 := w4) 0 rfl (.tmp 25) (.tmp 29) 117 25 (.slice none 0 0) 24 rfl Try.underlying117 info25 rfl (by decide) (by decide) v3 ys x [.slice A4 x.length c4] (fun k => (ok k ∧ k ≠ p) ∧ k ≠ g) (fun k => w3.heap.size ≤ k) rfl rfl ⟨_, rfl, Kd.R_lower (Kd.R_mono (Kd.R_bound hR4'.out) (fun k hk => hk.2.1)) (Nat.zero_le _)⟩ (fun k hk => ⟨hok1'.out k (by omega), fun e => by have := Kd.R_lt hR3'.out k e.symm; omega⟩) (fun k hk => hok1'.out k (by omega)) (Kd.R_below hR3'.out hB4'.out) (Below.refl _ _) (Nat.zero_le _) (by omega) ?_
       intro v5 w5 hR5 _ hg5 _
       have hB5 : Below w1.heap.size w1 w5 := pw_below_grown (below_then hB3.out hs3 hB4'.out) _ (by omega) hg5 (fun k e => hfr3.out k e)
       obtain ⟨A5, c5, e5⟩ := Kd.R_slice hR5
       rw [List.length_append, List.length_singleton] at e5
       subst e5
       have hfin := Aside0.mk (hA'.out.store hnr.out hB5 hR5)
       have x5 := (hB5.cell (p := ⟨g, i * 3 + 2, none⟩) hg1).trans x2
       have f5 := (hB5.frozen (p := ⟨g, i * 3 + 2, none⟩) hg1).trans f2
       clear hR5 hg5 hB5)
    | fail)
  go_ret
  rw [rfind_par] at hfin
  exact ⟨rfl, hfin.out.1, hk'.out.trans hfin.out.2⟩
/-- Send, in one text. -/
theorem RSend_calls (R : RSt) (a c : Int) (htt : tot R.L ≤ 100) (hn : (R.L.map (·.1)).Nodup) (hl : R.L.length ≤ 900) (A : Option Addr) (n cp : Nat) (x : List Int) (hxn : x.length = n) (ok : Nat → Prop) (p : Nat) (w : World) (hok : ∀ k, w.heap.size ≤ k → ok k) (h : IsR ok w p R)
    (hC : Kd.C (Kd.int .u8) w A n x) (hCk : ∀ w1, Fy ok w w1 → Kd.C (Kd.int .u8) w1 A n x) (hx : n ≤ 1000000) :
    Calls Try.prog 33 #[.pointer (some ⟨p, 0, none⟩), .int .i64 a, .int .i64 c, .slice A n cp] w fun e w' => e = .returned (.int .i64 (rsend R (a, c) x).2) ∧ IsR ok w' p (rsend R (a, c) x).1 ∧ Fy ok w w' := by
  subst hxn
  unfold rsend
  cases ht : rthere R (a, c) with
  | false =>
    rw [if_pos rfl]
    refine (RSend_no R a c _ ht ok p w h).mono ?_
    rintro e w' ⟨rfl, rfl⟩
    exact ⟨rfl, h, Fy.refl _ _⟩
  | true =>
    rw [if_neg (by simp)]
    by_cases h100 : 100 ≤ tot R.L
    · rw [if_pos h100]
      refine (RSend_full R a c _ ht h100 (by omega) hn hl ok p w hok h).mono ?_
      rintro e w' ⟨rfl, h1, h2⟩
      exact ⟨rfl, h1, h2⟩
    · rw [if_neg h100]
      have hll : (line R.L (a, c)).length ≤ 1000 := by have := tot_put R.L (a, c) []; simp at this; omega
      refine (RSend_yes R a c ht (by omega) hn hl hll A cp x ok p w hok h hC hCk hx).mono ?_
      rintro e w' ⟨rfl, h1, h2⟩
      exact ⟨rfl, h1, h2⟩
set_option maxHeartbeats 2000000 in
set_option maxRecDepth 100000 in
theorem RDouble_none (R : RSt) (a c j : Int) (hp : (rpeek R (a, c) j).2 = none) (hn : (R.L.map (·.1)).Nodup) (hl : R.L.length ≤ 800) (ok : Nat → Prop) (p : Nat) (w : World) (hok : ∀ k, w.heap.size ≤ k → ok k) (h : IsR ok w p R) :
    Calls Try.prog 36 #[.pointer (some ⟨p, 0, none⟩), .int .i64 a, .int .i64 c, .int .i64 j] w fun e w' => e = .returned (.int .i64 (rdouble R (a, c) j).2) ∧ IsR ok w' p (rdouble R (a, c) j).1 ∧ Fy ok w w' := by
  have hpk := Aside0.mk (RPeek_none R a c j hp hn (by omega) ok p w hok h)
  have hr : rdouble R (a, c) j = ((rpeek R (a, c) j).1, 5) := by unfold rdouble; rw [hp]
  rw [hr]
  clear hr hp h
  go_enter Try.func36, Try.ntmps36
  go_wp2_with fail
  refine hpk.out.mono ?_
  rintro e w1 ⟨rfl, h1, h2⟩
  have h1' := Aside0.mk h1
  have h2' := Aside0.mk h2
  clear h1 h2
  go_wp2
  go_ret
  exact ⟨rfl, h1'.out, h2'.out⟩
theorem rpeek_facts (R : RSt) (k : Key) (j : Int) : tot (rpeek R k j).1.L = tot R.L ∧ (rpeek R k j).1.L.length ≤ R.L.length + 1 ∧ ((R.L.map (·.1)).Nodup → ((rpeek R k j).1.L.map (·.1)).Nodup) := by
  unfold rpeek
  split
  · exact ⟨rfl, by simp, fun h => h⟩
  · exact ⟨tot_rfind R k, len_rfind R k, fun h => nd_rfind h k⟩
set_option maxHeartbeats 2000000 in
set_option maxRecDepth 100000 in
theorem RDouble_some (R : RSt) (a c j : Int) (x : List Int) (hp : (rpeek R (a, c) j).2 = some x) (hx : x.length ≤ 1000000) (htt : tot R.L ≤ 100) (hn : (R.L.map (·.1)).Nodup) (hl : R.L.length ≤ 800) (ok : Nat → Prop) (p : Nat) (w : World) (hok : ∀ k, w.heap.size ≤ k → ok k) (h : IsR ok w p R) :
    Calls Try.prog 36 #[.pointer (some ⟨p, 0, none⟩), .int .i64 a, .int .i64 c, .int .i64 j] w fun e w' => e = .returned (.int .i64 (rdouble R (a, c) j).2) ∧ IsR ok w' p (rdouble R (a, c) j).1 ∧ Fy ok w w' := by
  have hll : (line R.L (a, c)).length ≤ 1000 := by have := tot_put R.L (a, c) []; simp at this; omega
  have hpk := Aside0.mk (RPeek_some R a c j x hp hn (by omega) hll hx ok p w hok h)
  have hr : rdouble R (a, c) j = rsend (rpeek R (a, c) j).1 (a, c) x := by unfold rdouble; rw [hp]
  rw [hr]
  obtain ⟨f1, f2, f3⟩ := rpeek_facts R (a, c) j
  have hsd := Aside0.mk (fun (A4 : Option Addr) (c4 : Nat) (w1 : World) (hsz : w.heap.size ≤ w1.heap.size) (h1 : IsR ok w1 p (rpeek R (a, c) j).1) (hR : Kd.R (Kd.int .u8) 5 w1 w.heap.size (fun _ => True) (.slice A4 x.length c4) x) =>
    RSend_calls (rpeek R (a, c) j).1 a c (by omega) (f3 hn) (by omega) A4 x.length c4 x rfl ok p w1 (fun k hk => hok k (by omega)) h1 (C_of_R hR).1 (fun w2 h2 => (C_of_R (h2.C hR)).1) hx)
  clear hr hp h f1 f2 f3 hn htt hll hl
  obtain ⟨R1, hR1⟩ : ∃ R1, (rpeek R (a, c) j).1 = R1 := ⟨_, rfl⟩
  rw [hR1] at hpk hsd ⊢
  clear hR1
  go_enter Try.func36, Try.ntmps36
  go_wp2_with fail
  refine hpk.out.mono ?_
  rintro e w1 ⟨A4, c4, rfl, hR, h1, h2⟩
  have h1' := Aside0.mk h1
  have h2' := Aside0.mk h2
  have hR' := Aside0.mk hR
  clear h1 h2 hR
  go_wp2_with fail
  refine (hsd.out A4 c4 w1 h2'.out.size h1'.out hR'.out).mono ?_
  rintro e w2 ⟨rfl, h3, h4⟩
  have h3' := Aside0.mk h3
  have h4' := Aside0.mk h4
  clear h3 h4
  go_wp2
  go_ret
  exact ⟨rfl, h3'.out, h2'.out.trans h4'.out⟩
end Go.Proofs.Ytjghlomkimoeoaa.Lnk
