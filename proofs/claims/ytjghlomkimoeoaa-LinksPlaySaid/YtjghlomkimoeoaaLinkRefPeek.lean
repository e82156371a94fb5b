/- The document's New, Count, Peek, walked. -/
import Derived.Test.YtjghlomkimoeoaaLinkRefFind
namespace Go.Proofs.Ytjghlomkimoeoaa.Lnk
open Go.RowKit Go.Proofs.YtjghlomkimoeoaaW.PrintWords Go.Proofs.YtjghlomkimoeoaaW.PrintLast Go.Proofs.YtjghlomkimoeoaaW.PrintMore Go.Proofs.Ytjghlomkimoeoaa.PLinksPlay
open Amap Stp
set_option linter.unusedVariables false
set_option linter.unusedSimpArgs false
theorem rnew_is (q : Int) (ok : Nat → Prop) (w : World) (hb : ∀ k, w.heap.size ≤ k → ok k) : IsR ok (w.alloc (.cells #[.int .i64 q, .slice none 0 0] 134)) w.heap.size ⟨q, []⟩ :=
  ⟨_, hb _ (Nat.le_refl _), blk_new _ _, Kd.R_nil _ _ _ _ _⟩
set_option maxHeartbeats 2000000 in
set_option maxRecDepth 100000 in
theorem RNew_calls (n : Int) (w : World) (ok : Nat → Prop) (hb : ∀ k, w.heap.size ≤ k → ok k) : Calls Try.prog 32 #[.int .i64 n] w fun e w' => e = .returned (.pointer (some ⟨w.heap.size, 0, none⟩)) ∧ IsR ok w' w.heap.size ⟨clamp n, []⟩ ∧ Below w.heap.size w w' := by
  have e1 : min (max n 0) 100 = clamp n := by unfold clamp; split <;> (try split) <;> omega
  have e1' := Aside0.mk e1
  clear e1
  go_enter Try.func32, Try.ntmps32
  go_wp2
  go_ret
  rw [e1'.out]
  exact ⟨rfl, rnew_is _ ok w hb, below_alloc (Below.refl _ _) _⟩
theorem At.cells {ok : Nat → Prop} {w : World} {p : Nat} {R : RSt} {k : Key} {g cap i : Nat} (h : At ok w p R k g cap i) :
    ∃ A2 c2, w.cell? ⟨g, i * 3 + 2, none⟩ = some (.slice A2 (line R.L k).length c2) ∧ w.frozen? ⟨g, i * 3 + 2, none⟩ = false ∧ Kd.R kB 25 w 0 (fun k => (ok k ∧ k ≠ p) ∧ k ≠ g) (.slice A2 (line R.L k).length c2) (line R.L k) := by
  obtain ⟨g', A2, c2, e, _, _, h3, h4, h5⟩ := h.at_.elem h.elem
  cases e
  exact ⟨A2, c2, h3, h4, h5⟩
theorem At.is {ok : Nat → Prop} {w : World} {p : Nat} {R : RSt} {k : Key} {g cap i : Nat} (h : At ok w p R k g cap i) : IsR ok w p R := ⟨_, h.at_⟩
set_option maxHeartbeats 2000000 in
set_option maxRecDepth 100000 in
theorem RCount_calls (R : RSt) (a c : Int) (hn : (R.L.map (·.1)).Nodup) (hl : R.L.length ≤ 1000) (ok : Nat → Prop) (p : Nat) (w : World) (hok : ∀ k, w.heap.size ≤ k → ok k) (h : IsR ok w p R) :
    Calls Try.prog 40 #[.pointer (some ⟨p, 0, none⟩), .int .i64 a, .int .i64 c] w fun e w' => e = .returned (.int .i64 ((rcount R (a, c)).2 : Nat)) ∧ IsR ok w' p (rcount R (a, c)).1 ∧ Fy ok w w' := by
  cases ht : rthere R (a, c) with
  | false =>
    have hf := Aside0.mk (find_no R a c ht ok p w h)
    have hr : rcount R (a, c) = (R, 0) := by unfold rcount; rw [ht, if_pos rfl]
    rw [hr]
    have h' := Aside0.mk h
    clear hr h ht
    go_enter Try.func40, Try.ntmps40
    go_wp2_with fail
    refine hf.out.mono ?_
    rintro e w1 ⟨rfl, rfl⟩
    go_wp2
    go_ret
    exact ⟨rfl, h'.out, Fy.refl _ _⟩
  | true =>
    have hf := Aside0.mk (find_yes R a c ht hn hl ok p w hok h)
    have hr : rcount R (a, c) = (rfind R (a, c), (line R.L (a, c)).length) := by unfold rcount; rw [ht, if_neg (by simp)]
    rw [hr]
    have hln := Aside0.mk (rfind_line R (a, c) (a, c))
    clear hr h ht
    go_enter Try.func40, Try.ntmps40
    go_wp2_with fail
    refine hf.out.mono ?_
    rintro e w1 ⟨g, cap, i, rfl, hA, hk⟩
    obtain ⟨A2, c2, x2, _, _⟩ := hA.cells
    rw [hln.out] at x2
    have hA' := Aside0.mk hA
    have hk' := Aside0.mk hk
    obtain ⟨m, hm⟩ : ∃ m, (line R.L (a, c)).length = m := ⟨_, rfl⟩
    rw [hm] at x2
    have hm' := Aside0.mk hm
    clear hA hk hm
    go_wp2
    go_ret
    refine ⟨?_, hA'.out.is, hk'.out⟩
    show _ = Ending.returned (.int .i64 ((line R.L (a, c)).length : Nat))
    rw [hm'.out]
    rfl
set_option maxHeartbeats 2000000 in
set_option maxRecDepth 100000 in
theorem RPeek_none (R : RSt) (a c j : Int) (hp : (rpeek R (a, c) j).2 = none) (hn : (R.L.map (·.1)).Nodup) (hl : R.L.length ≤ 1000) (ok : Nat → Prop) (p : Nat) (w : World) (hok : ∀ k, w.heap.size ≤ k → ok k) (h : IsR ok w p R) :
    Calls Try.prog 35 #[.pointer (some ⟨p, 0, none⟩), .int .i64 a, .int .i64 c, .int .i64 j] w fun e w' => e = .returned (.tuple #[.slice none 0 0, .bool false]) ∧ IsR ok w' p (rpeek R (a, c) j).1 ∧ Fy ok w w' := by
  cases ht : rthere R (a, c) with
  | false =>
    have hf := Aside0.mk (find_no R a c ht ok p w h)
    have hr : (rpeek R (a, c) j).1 = R := by unfold rpeek; rw [ht, if_pos rfl]
    rw [hr]
    have h' := Aside0.mk h
    clear hr h ht hp
    go_enter Try.func35, Try.ntmps35
    go_wp2_with fail
    refine hf.out.mono ?_
    rintro e w1 ⟨rfl, rfl⟩
    go_wp2
    go_ret2
    exact ⟨rfl, h'.out, Fy.refl _ _⟩
  | true =>
    have hf := Aside0.mk (find_yes R a c ht hn hl ok p w hok h)
    have hr : rpeek R (a, c) j = (rfind R (a, c), if 0 ≤ j then (line R.L (a, c))[j.toNat]? else none) := by unfold rpeek; rw [ht, if_neg (by simp)]
    rw [hr] at hp ⊢
    have hln := Aside0.mk (rfind_line R (a, c) (a, c))
    have hj : j < 0 ∨ (line R.L (a, c)).length ≤ j := by
      simp only [] at hp
      split at hp
      · have := List.getElem?_eq_none_iff.1 hp
        right; omega
      · left; omega
    clear hr h ht hp
    obtain ⟨m, hm⟩ : ∃ m, (line R.L (a, c)).length = m := ⟨_, rfl⟩
    rw [hm] at hj
    have hm' := Aside0.mk hm
    clear hm
    by_cases hj0 : j < 0
    · have d0 : decide (j < 0) = true := decide_eq_true hj0
      clear hj
      go_enter Try.func35, Try.ntmps35
      go_wp2_with fail
      refine hf.out.mono ?_
      rintro e w1 ⟨g, cap, i, rfl, hA, hk⟩
      have hA' := Aside0.mk hA
      have hk' := Aside0.mk hk
      clear hA hk
      go_wp2
      go_ret2
      exact ⟨rfl, hA'.out.is, hk'.out⟩
    · have d0 : decide (j < 0) = false := decide_eq_false hj0
      have d1 : decide ((m : Int) ≤ j) = true := decide_eq_true (by omega)
      clear hj
      go_enter Try.func35, Try.ntmps35
      go_wp2_with fail
      refine hf.out.mono ?_
      rintro e w1 ⟨g, cap, i, rfl, hA, hk⟩
      obtain ⟨A2, c2, x2, _, _⟩ := hA.cells
      rw [hln.out, hm'.out] at x2
      have hA' := Aside0.mk hA
      have hk' := Aside0.mk hk
      clear hA hk
      go_wp2
      go_ret2
      exact ⟨rfl, hA'.out.is, hk'.out⟩
set_option maxHeartbeats 2000000 in
set_option maxRecDepth 100000 in
theorem RPeek_some (R : RSt) (a c j : Int) (x : List Int) (hp : (rpeek R (a, c) j).2 = some x) (hn : (R.L.map (·.1)).Nodup) (hl : R.L.length ≤ 1000) (hll : (line R.L (a, c)).length ≤ 1000) (hx : x.length ≤ 1000000) (ok : Nat → Prop) (p : Nat) (w : World) (hok : ∀ k, w.heap.size ≤ k → ok k) (h : IsR ok w p R) :
    Calls Try.prog 35 #[.pointer (some ⟨p, 0, none⟩), .int .i64 a, .int .i64 c, .int .i64 j] w fun e w' => ∃ A2 c2, e = .returned (.tuple #[.slice A2 x.length c2, .bool true]) ∧ Kd.R (Kd.int .u8) 5 w' w.heap.size (fun _ => True) (.slice A2 x.length c2) x ∧ IsR ok w' p (rpeek R (a, c) j).1 ∧ Fy ok w w' := by
  have ht : rthere R (a, c) = true := by
    cases ht : rthere R (a, c) with
    | true => rfl
    | false => unfold rpeek at hp; rw [ht, if_pos rfl] at hp; cases hp
  have hf := Aside0.mk (find_yes R a c ht hn hl ok p w hok h)
  have hr : rpeek R (a, c) j = (rfind R (a, c), if 0 ≤ j then (line R.L (a, c))[j.toNat]? else none) := by unfold rpeek; rw [ht, if_neg (by simp)]
  rw [hr] at hp ⊢
  have hln := Aside0.mk (rfind_line R (a, c) (a, c))
  have hj : 0 ≤ j ∧ j < (line R.L (a, c)).length ∧ (line R.L (a, c))[j.toNat]? = some x := by
    simp only [] at hp
    split at hp
    · rename_i h0
      have := (List.getElem?_eq_some_iff.1 hp).1
      exact ⟨h0, by omega, hp⟩
    · cases hp
  obtain ⟨j0, j1, j2⟩ := hj
  have j2' := Aside0.mk j2
  clear hr h ht hp j2
  obtain ⟨m, hm⟩ : ∃ m, (line R.L (a, c)).length = m := ⟨_, rfl⟩
  rw [hm] at j1 hll
  have hm' := Aside0.mk hm
  clear hm
  have d0 : decide (j < 0) = false := decide_eq_false (by omega)
  have d1 : decide ((m : Int) ≤ j) = false := decide_eq_false (by omega)
  have hj1000 : j ≤ 1000 := by omega
  go_enter Try.func35, Try.ntmps35
  go_wp2_with fail
  refine hf.out.mono ?_
  rintro e w1 ⟨g, cap, i, rfl, hA, hk⟩
  obtain ⟨A2, c2, x2, _, hq⟩ := hA.cells
  have hq2 := Kd.Q_of_R hq
  rw [hln.out] at x2 hq2
  rw [hm'.out] at x2 hq2
  obtain ⟨ad, A3, c3, rfl, x3, hc3, hC3⟩ := line_at hq2 j2'.out
  have hg1 : g < w1.heap.size := World.block_lt_of_cell? w1 _ x2
  have hg2 : (ad.add j.toNat).block < w1.heap.size := World.block_lt_of_cell? w1 _ x3
  have hs1 : w.heap.size ≤ w1.heap.size := hk.size
  have hA' := Aside0.mk hA
  have hk' := Aside0.mk hk
  have hC3' := Aside0.mk hC3
  have hR0 : Aside0 (Kd.R (Kd.int .u8) 5 (w1.alloc (.cells #[] 5)) w1.heap.size (fun _ => True) (.slice (some ⟨w1.heap.size, 0, none⟩) 0 0) []) := ⟨Kd.R_of_own (own_lit w1 w1.heap.size 5 .u8 [] (Nat.le_refl _) (by simp)) (fun _ _ => trivial)⟩
  clear hA hk hC3 hq hq2
  go_wp2_with (first
    | ((with_reducible refine gate_builtin (b := .append) (xs := #[.tmp 30, .tmp 37]) rfl ?_); at_builtin
       refine Kd.R_append_row (Value.int .u8) 0 (w0 := w1) w1.heap.size rfl (.tmp 30) (.tmp 37) 25 5 (.int .u8 0) 1 rfl Try.underlying25 info5 rfl (by decide) (.slice (some ⟨w1.heap.size, 0, none⟩) 0 0) [] x A3 x.length c3 (fun _ => True) rfl rfl (fun _ _ => trivial) hR0.out (Kd.C_below hC3'.out (below_alloc (Below.refl _ _) _)) (below_alloc (Below.refl _ _) _) (by simp) (by simp; omega) ?_
       intro v4 w4 hR4 hB4 hg4 hat4
       rw [List.nil_append] at hR4
       obtain ⟨A4, c4, e4⟩ := Kd.R_slice hR4
       subst e4
       have hR4' := Aside0.mk hR4
       have hB4' := Aside0.mk hB4
       clear hg4 hat4 hR4 hB4)
    | fail)
  go_ret2
  exact ⟨A4, c4, rfl, Kd.R_lower hR4'.out hs1, hA'.out.is.below hB4'.out, hk'.out.trans (Fy.of_below hB4'.out)⟩
end Go.Proofs.Ytjghlomkimoeoaa.Lnk
