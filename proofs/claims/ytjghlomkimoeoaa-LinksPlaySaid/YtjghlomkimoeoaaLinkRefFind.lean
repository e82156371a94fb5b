/- The document's find, walked. -/
import Derived.Test.YtjghlomkimoeoaaLinkRefRep
namespace Go.Proofs.Ytjghlomkimoeoaa.Lnk
open Go.RowKit Go.Proofs.YtjghlomkimoeoaaW.PrintWords Go.Proofs.YtjghlomkimoeoaaW.PrintLast Go.Proofs.YtjghlomkimoeoaaW.PrintMore Go.Proofs.Ytjghlomkimoeoaa.PLinksPlay
open Amap Stp
set_option linter.unusedVariables false
set_option linter.unusedSimpArgs false
theorem rthere_eq (R : RSt) (a c : Int) : rthere R (a, c) = (decide (0 ≤ a) && decide (a < R.parties) && (decide (0 ≤ c) && decide (c < R.parties)) && !decide (a = c)) := rfl
set_option maxHeartbeats 1000000 in
set_option maxRecDepth 100000 in
theorem find_no (R : RSt) (a c : Int) (ht : rthere R (a, c) = false) (ok : Nat → Prop) (p : Nat) (w : World) (h : IsR ok w p R) :
    Calls Try.prog 82 #[.pointer (some ⟨p, 0, none⟩), .int .i64 a, .int .i64 c] w fun e w' => e = .returned (.pointer none) ∧ w = w' := by
  obtain ⟨v, h⟩ := h
  have p0 : w.cell? ⟨p, 0, none⟩ = some (.int .i64 R.parties) := (blk_cell h.blk 0).trans rfl
  rw [rthere_eq] at ht
  obtain ⟨n, hn⟩ : ∃ n, R.parties = n := ⟨_, rfl⟩
  rw [hn] at p0 ht
  clear hn h
  by_cases h0 : a < 0
  · have d0 : decide (a < 0) = true := decide_eq_true h0
    clear ht
    go_enter Try.func82, Try.ntmps82
    go_wp2
    go_ret
    exact ⟨rfl, rfl⟩
  · have d0 : decide (a < 0) = false := decide_eq_false h0
    by_cases h1 : c < 0
    · have d1 : decide (c < 0) = true := decide_eq_true h1
      clear ht
      go_enter Try.func82, Try.ntmps82
      go_wp2
      go_ret
      exact ⟨rfl, rfl⟩
    · have d1 : decide (c < 0) = false := decide_eq_false h1
      by_cases h2 : n ≤ a
      · have d2 : decide (n ≤ a) = true := decide_eq_true h2
        clear ht
        go_enter Try.func82, Try.ntmps82
        go_wp2
        go_ret
        exact ⟨rfl, rfl⟩
      · have d2 : decide (n ≤ a) = false := decide_eq_false h2
        by_cases h3 : n ≤ c
        · have d3 : decide (n ≤ c) = true := decide_eq_true h3
          clear ht
          go_enter Try.func82, Try.ntmps82
          go_wp2
          go_ret
          exact ⟨rfl, rfl⟩
        · have d3 : decide (n ≤ c) = false := decide_eq_false h3
          have e : a = c := by
            simp only [decide_eq_true (show (0 : Int) ≤ a by omega), decide_eq_true (show a < n by omega), decide_eq_true (show (0 : Int) ≤ c by omega), decide_eq_true (show c < n by omega), Bool.true_and] at ht
            simpa using ht
          subst e
          clear ht
          go_enter Try.func82, Try.ntmps82
          go_wp2
          go_ret
          exact ⟨rfl, rfl⟩
/-- A link of key k, in the row. -/
structure At (ok : Nat → Prop) (w : World) (p : Nat) (R : RSt) (k : Key) (g cap i : Nat) : Prop where
  at_ : RAt ok w p R (.slice (some ⟨g, 0, none⟩) R.L.length cap)
  lt : i < R.L.length
  elem : R.L[i]? = some (k, line R.L k)
theorem find_here {R : RSt} {k : Key} {i : Nat} {q : Key × List (List Int)} (hn : (R.L.map (·.1)).Nodup) (hq : R.L[i]? = some q) (hk : q.1 = k) : rfind R k = R ∧ R.L[i]? = some (k, line R.L k) := by
  obtain ⟨q1, q2⟩ := q
  simp only [] at hk
  subst hk
  have hl := mlook_at hn hq
  refine ⟨by unfold rfind; rw [hl], ?_⟩
  unfold line
  rw [hl, hq]
  rfl
theorem find_none {R : RSt} {k : Key} (h : ∀ (j : Nat) (q : Key × List (List Int)), R.L[j]? = some q → q.1 ≠ k) : rfind R k = ⟨R.parties, R.L ++ [(k, [])]⟩ ∧ line R.L k = [] := by
  have hl : mlook R.L k = none := mlook_none.2 (fun p hp => by
    obtain ⟨j, hj⟩ := List.getElem?_of_mem hp
    exact h j p hj)
  exact ⟨by unfold rfind; rw [hl], by unfold line; rw [hl]; rfl⟩
theorem info138 : (Try.prog.info? 138).map (fun i => (i.zero, i.size, i.bytes)) = some (some (.agg #[.int .i64 0, .int .i64 0, .slice none 0 0]), 3, 40) := by kernel_rfl
theorem RAt.grown {ok : Nat → Prop} {W w1 : World} {p : Nat} {R : RSt} {v v1 : Value} (h : RAt ok W p R v) {k : Key} (hq : Kd.R kL 138 w1 0 (fun k => ok k ∧ k ≠ p) v1 (R.L ++ [(k, [])])) (hg : W.grownBy w1 v.ownBlock) :
    RAt ok (w1.setCell ⟨p, 1, none⟩ v1) p ⟨R.parties, R.L ++ [(k, [])]⟩ v1 ∧ Fy ok W (w1.setCell ⟨p, 1, none⟩ v1) := by
  have hb : w1.heap[p]? = some (.cells #[.int .i64 R.parties, v] 134 (0, 0)) := blk_grown h.blk hg (fun e => (h.row.1 p e.symm).2 rfl)
  refine ⟨⟨h.pk, ?_, Kd.R_far hq (fun k hk => hk.2) v1⟩, ?_⟩
  · have := blk_set hb 1 v1
    simpa using this
  · refine ⟨((Fr.refl [134, 138] false 0 W).grown hg (Nat.zero_le _) (fun g e => ⟨Nat.zero_le _, fun o ho => ?_⟩)).set hb (by simp) (Nat.zero_le _) 1 v1, ((Kp.refl ok W).grown hg (fun g e => (h.row.1 g e).1)).set h.pk 1 v1⟩
    obtain ⟨cells, hc⟩ := Kd.R_typed h.row g e
    rw [hc] at ho
    cases ho
    simp [Still]
theorem wrap_nat (n : Nat) (h : n ≤ 1000) : IntKind.i64.wrap (n : Int) = n := by
  simp only [IntKind.wrap, IntKind.bits, IntKind.signed]
  simp
  omega
theorem RAt.drewN {ok : Nat → Prop} {w : World} {p : Nat} {R : RSt} {v : Value} (h : RAt ok w p R v) (n : Nat) : RAt ok (w.drewN n) p R v := h.below (pw_below_drewN (Below.refl _ _) n)
theorem snoc_get (L : List (Key × List (List Int))) (x : Key × List (List Int)) : (L ++ [x])[L.length]? = some x := by simp
set_option maxHeartbeats 4000000 in
set_option maxRecDepth 100000 in
theorem find_yes (R : RSt) (a c : Int) (ht : rthere R (a, c) = true) (hn : (R.L.map (·.1)).Nodup) (hl : R.L.length ≤ 1000) (ok : Nat → Prop) (p : Nat) (w : World) (hok : ∀ k, w.heap.size ≤ k → ok k) (h : IsR ok w p R) :
    Calls Try.prog 82 #[.pointer (some ⟨p, 0, none⟩), .int .i64 a, .int .i64 c] w fun e w' => ∃ g cap i, e = .returned (.pointer (some ⟨g, i * 3, none⟩)) ∧ At ok w' p (rfind R (a, c)) (a, c) g cap i ∧ Fy ok w w' := by
  obtain ⟨v, h⟩ := h
  obtain ⟨A, cap, rfl, hcap⟩ := h.form
  have p0 : w.cell? ⟨p, 0, none⟩ = some (.int .i64 R.parties) := (blk_cell h.blk 0).trans rfl
  have p1 : w.cell? ⟨p, 1, none⟩ = some (.slice A R.L.length cap) := (blk_cell h.blk 1).trans rfl
  have f1 : w.frozen? ⟨p, 1, none⟩ = false := blk_frozen h.blk 1
  have hpl : p < w.heap.size := blk_lt h.blk
  rw [rthere_eq] at ht
  simp only [Bool.and_eq_true, decide_eq_true_eq, Bool.not_eq_true', decide_eq_false_iff_not] at ht
  obtain ⟨⟨⟨t0, t1⟩, t2, t3⟩, t4⟩ := ht
  have h' := Aside0.mk h
  have hn' := Aside0.mk hn
  have hok' := Aside0.mk hok
  obtain ⟨m, hm⟩ : ∃ m, R.parties = m := ⟨_, rfl⟩
  rw [hm] at p0 t1 t3
  have d0 : decide (a < 0) = false := decide_eq_false (by omega)
  have d1 : decide (c < 0) = false := decide_eq_false (by omega)
  have d2 : decide (m ≤ a) = false := decide_eq_false (by omega)
  have d3 : decide (m ≤ c) = false := decide_eq_false (by omega)
  have d4 : (a == c) = false := by simpa using t4
  clear h hn hok hm t0 t1 t2 t3 t4
  go_enter Try.func82, Try.ntmps82
  go_wp2_with fail
  go_loopg [40] (R.L.length + 1) (fun kq v40 w' => ∃ (i : Nat), v40 = .int .i64 (i : Int) ∧ Aside0 (kq + i = R.L.length + 1) ∧ Aside0 (i ≤ R.L.length) ∧ Aside0 (∀ j q, j < i → R.L[j]? = some q → q.1 ≠ (a, c)) ∧ w' = w)
  case atStart => exact ⟨0, rfl, ⟨by omega⟩, ⟨by omega⟩, ⟨fun j q hj => absurd hj (by omega)⟩, rfl⟩
  case round =>
    obtain ⟨i, rfl, hk, hi, hnf, rfl⟩ := hrel
    by_cases hlt : i < R.L.length
    · have hd : decide ((i : Int) < (R.L.length : Int)) = true := decide_eq_true (by omega)
      have hd' : decide (i < R.L.length) = true := decide_eq_true hlt
      cases gk with
      | zero => exact absurd hk.out (by omega)
      | succ k1 =>
        have hlt' := Aside0.mk hlt
        obtain ⟨⟨⟨qa, qc⟩, ql⟩, hq⟩ : ∃ q, R.L[i]? = some q := ⟨_, List.getElem?_eq_getElem hlt⟩
        obtain ⟨g, A2, c2, rfl, x0, x1, _, _, _⟩ := h'.out.elem hq
        have hq' := Aside0.mk hq
        simp only [] at x0 x1
        clear hq
        by_cases e1 : qa = a
        · subst e1
          by_cases e2 : qc = c
          · subst e2
            go_wp2_with fail
            go_ret
            obtain ⟨r1, r2⟩ := find_here hn'.out hq'.out rfl
            exact ⟨g, cap, i, rfl, ⟨by rw [r1]; exact h'.out, by rw [r1]; exact hlt'.out, by rw [r1]; exact r2⟩, Fy.refl _ _⟩
          · have e2' : (qc == c) = false := by simpa using e2
            go_wp2_with fail
            go_roundg k1
            case measure => have := hk.out; omega
            case rel => exact ⟨i + 1, by go_num, ⟨by have := hk.out; omega⟩, ⟨by have := hlt'.out; omega⟩, ⟨fun j q hj hq => by
              by_cases hji : j = i
              · subst hji
                rw [hq'.out] at hq
                cases hq
                exact fun e => e2 (congrArg Prod.snd e)
              · exact hnf.out j q (by omega) hq⟩, rfl⟩
        · have e1' : (qa == a) = false := by simpa using e1
          go_wp2_with fail
          go_roundg k1
          case measure => have := hk.out; omega
          case rel => exact ⟨i + 1, by go_num, ⟨by have := hk.out; omega⟩, ⟨by have := hlt'.out; omega⟩, ⟨fun j q hj hq => by
              by_cases hji : j = i
              · subst hji
                rw [hq'.out] at hq
                cases hq
                exact fun e => e1 (congrArg Prod.fst e)
              · exact hnf.out j q (by omega) hq⟩, rfl⟩
    · have hd : decide ((i : Int) < (R.L.length : Int)) = false := decide_eq_false (by omega)
      have hd' : decide (i < R.L.length) = false := decide_eq_false hlt
      obtain rfl : i = R.L.length := by have := hi.out; omega
      have hno := Aside0.mk (find_none (R := R) (k := (a, c)) (fun j q hq => hnf.out j q ((List.getElem?_eq_some_iff.1 hq).1) hq))
      go_wp2_with (first
        | ((with_reducible refine gate_builtin (b := .append) (xs := #[.tmp 76, .tmp 80]) rfl ?_); at_builtin
           refine Kd.R_append kL (w0 := wr) 0 rfl (.tmp 76) (.tmp 80) 132 138 (.agg #[.int .i64 0, .int .i64 0, .slice none 0 0]) 40 rfl Try.underlying132 info138 rfl (by decide) (by decide) (.slice A R.L.length cap) R.L ((a, c), []) [.int .i64 a, .int .i64 c, .slice none 0 0] (fun k => ok k ∧ k ≠ p) (fun _ => False) rfl rfl (kL_mk (Kd.R_nil _ _ _ _ _)) (fun _ hk => hk.elim) (fun k hk => ⟨hok'.out k hk, by omega⟩) h'.out.row (Below.refl _ _) (Nat.zero_le _) (by omega) ?_
           intro v1 w1 hR1 hB1 hg1 hat1
           obtain ⟨g1, cap1, e1, _, _, _⟩ := Kd.R_form hR1 (by simp)
           rw [List.length_append, List.length_singleton] at e1
           subst e1
           have hfin := Aside0.mk (h'.out.grown hR1 hg1)
           have p1' : w1.cell? ⟨p, 1, none⟩ = some (.slice A R.L.length cap) := cell_grown hg1 p1 (fun e => (h'.out.row.1 p e.symm).2 rfl)
           have f1' : w1.frozen? ⟨p, 1, none⟩ = false := blk_frozen (blk_grown h'.out.blk hg1 (fun e => (h'.out.row.1 p e.symm).2 rfl)) 1
           clear hR1 hg1 hat1 hB1)
        | fail)
      obtain ⟨W2, hW2⟩ : ∃ W2, w1.setCell ⟨p, 1, none⟩ (.slice (some ⟨g1, 0, none⟩) (R.L.length + 1) cap1) = W2 := ⟨_, rfl⟩
      rw [hW2] at hfin ⊢
      have q1 : W2.cell? ⟨p, 1, none⟩ = some (.slice (some ⟨g1, 0, none⟩) (R.L.length + 1) cap1) := (blk_cell hfin.out.1.blk 1).trans rfl
      obtain ⟨n, hnn⟩ : ∃ n, R.L.length = n := ⟨_, rfl⟩
      rw [hnn] at q1 hl
      have hnn' := Aside0.mk hnn
      have hwr : IntKind.i64.wrap (((n + 1 : Nat) : Int) - 1) = (n : Int) := by rw [show ((n + 1 : Nat) : Int) - 1 = (n : Int) by omega]; exact wrap_nat n hl
      have hwr2 : IntKind.i64.wrap ((n : Int) + 1 - 1) = (n : Int) := by rw [show (n : Int) + 1 - 1 = (n : Int) by omega]; exact wrap_nat n hl
      clear hW2 hnn p0 p1 f1 p1' f1' hpl d0 d1 d2 d3 d4 hd hd' hcap
      go_quiet (fail)
      go_wp2
      go_ret
      obtain ⟨r1, r2⟩ := hno.out
      have hfl : (R.L ++ [((a, c), ([] : List (List Int)))]).length = n + 1 := by rw [List.length_append, hnn'.out]; rfl
      have hA := (hfin.out.1.drewN nq)
      rw [hnn'.out] at hA
      refine ⟨g1, cap1, n, rfl, ?_, hfin.out.2.drewN _⟩
      rw [r1]
      refine ⟨?_, ?_, ?_⟩
      · show RAt ok _ p ⟨R.parties, R.L ++ [((a, c), [])]⟩ (.slice (some ⟨g1, 0, none⟩) (R.L ++ [((a, c), ([] : List (List Int)))]).length cap1)
        rw [hfl]
        exact hA
      · show n < (R.L ++ [((a, c), ([] : List (List Int)))]).length
        omega
      · have h3 := rfind_line R (a, c) (a, c)
        rw [r1, r2] at h3
        rw [h3]
        have h4 := snoc_get R.L ((a, c), [])
        rw [hnn'.out] at h4
        exact h4
end Go.Proofs.Ytjghlomkimoeoaa.Lnk
