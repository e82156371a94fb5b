/- The document's timers: where they lie; Due, Stop, walked (the drawn region printed by genTmRef.py). -/
import Derived.Test.YtdfghndcengkaaaTmNext
import Derived.Deep.DeepCutAuto
namespace Go.Proofs.Ytdfghndcengkaaa.Tmr
open Go.RowKit Go.Proofs.YtdfghndcengkaaaW.PrintWords Go.Proofs.YtdfghndcengkaaaW.PrintLast Go.Proofs.YtdfghndcengkaaaW.PrintMore Go.Proofs.Ytdfghndcengkaaa.PTimersPlay
open Amap Frm
set_option linter.unusedVariables false
set_option linter.unusedSimpArgs false
set_option linter.unusedSectionVars false
def kT : Kd Tm := Kd.pair Kd.string (Kd.int .i64)
theorem kT_sz : kT.sz = 2 := rfl
theorem kT_open {w : World} {base : Nat} {ok : Nat → Prop} {x : Tm} {cs : List Value} (h : kT.M w base ok x cs) : cs = [.string x.1, .int .i64 x.2] := by
  obtain ⟨c0, c1, rfl, h2, h3⟩ := h
  cases h2
  cases h3
  rfl
theorem kT_mk (w : World) (base : Nat) (ok : Nat → Prop) (x : Tm) : kT.M w base ok x [.string x.1, .int .i64 x.2] := ⟨[.string x.1], [.int .i64 x.2], rfl, rfl, rfl⟩
theorem info46 : (Try.prog.info? 46).map (fun i => (i.zero, i.size, i.bytes)) = some (some (.agg #[.string ⟨#[]⟩, .int .i64 0]), 2, 24) := by kernel_rfl
structure RAt (ok : Nat → Prop) (w : World) (p : Nat) (R : Tms) (v : Value) : Prop where
  pk : ok p
  blk : w.heap[p]? = some (.cells #[v] 30 (0, 0))
  row : Kd.R kT 46 w 0 (fun k => ok k ∧ k ≠ p) v R
def IsR (ok : Nat → Prop) (w : World) (p : Nat) (R : Tms) : Prop := ∃ v, RAt ok w p R v
theorem Q_rows {α : Type} {d : Kd α} {e base : Nat} {ok : Nat → Prop} {w : World} {A : Option Addr} {n c : Nat} {xs : List α} (h : d.Q e w base ok (.slice A n c) xs) : ReadsRow (d.M w base ok) d.sz w A n xs := by
  obtain ⟨_, inner, ho, hr⟩ := h
  obtain ⟨A', c', he, hl⟩ := q_slice ho
  injection he with h1 h2 h3
  subst h1; subst h2; subst h3
  refine ⟨rfl, q_max ho, fun hp => ?_⟩
  obtain ⟨ad, ha, hc⟩ := q_cells ho hp
  refine ⟨ad, ha, fun j p hj => ⟨(inner.drop (j * d.sz)).take d.sz, ?_, d.M_mono (fun k hk => hk.1) (hr.2 j p hj), fun i u hu => ?_⟩⟩
  · have hjl := (List.getElem?_eq_some_iff.1 hj).1
    have h1 : j * d.sz + d.sz ≤ inner.length := by rw [hr.1, ← Nat.succ_mul]; exact Nat.mul_le_mul_right _ hjl
    rw [List.length_take, List.length_drop]
    omega
  · refine hc _ u ?_
    rw [List.getElem?_take] at hu
    split at hu
    · rw [List.getElem?_drop] at hu
      exact hu
    · cases hu
theorem cuts {w : World} {ok : Nat → Prop} {A2 : Option Addr} {m c2 : Nat} {ys : Tms} (hq : Kd.Q kT 46 w 0 ok (.slice A2 m c2) ys) {n : Nat} (hn : n < m) :
    (∀ W : World, (Instr.slice 28 (.slice A2 m c2) none (some (.int .i64 (n : Int))) none).run Try.prog W = .ok (.slice A2 n c2) W) ∧ Kd.Q kT 46 w 0 ok (.slice A2 n c2) (ys.take n) ∧
      ∃ A' c', (∀ W : World, (Instr.slice 28 (.slice A2 m c2) (some (.int .i64 ((n : Int) + 1))) none none).run Try.prog W = .ok (.slice A' (m - (n + 1)) c') W) ∧ Kd.Q kT 46 w 0 ok (.slice A' (m - (n + 1)) c') (ys.drop (n + 1)) := by
  obtain ⟨hm, hmc, _⟩ := Kd.Q_reads' hq
  obtain ⟨i0, hi0, hz⟩ := Option.map_eq_some_iff.1 info46
  simp only [Prod.mk.injEq] at hz
  have h1 := cut_to (P := Try.prog) 28 46 .i64 Try.underlying28 hi0 A2 m c2 (n : Int) (by omega) (by omega) hmc
  rw [show ((n : Int)).toNat = n from by simp] at h1
  have h2 := cut_from (P := Try.prog) 28 46 .i64 Try.underlying28 hi0 2 hz.2.1 A2 m c2 ((n : Int) + 1) (by omega) (by omega)
  rw [show ((n : Int) + 1).toNat = n + 1 from by omega] at h2
  have h3 := Kd.Q_drop (k := n + 1) hq (by omega)
  exact ⟨h1, Kd.Q_take hq (by omega), _, _, h2, h3⟩
/-- The parts at n itself. -/
theorem cuts2 {w : World} {ok : Nat → Prop} {A2 : Option Addr} {m c2 : Nat} {ys : Tms} (hq : Kd.Q kT 46 w 0 ok (.slice A2 m c2) ys) {n : Nat} (hn : n ≤ m) :
    (∀ W : World, (Instr.slice 28 (.slice A2 m c2) none (some (.int .i64 (n : Int))) none).run Try.prog W = .ok (.slice A2 n c2) W) ∧ Kd.Q kT 46 w 0 ok (.slice A2 n c2) (ys.take n) ∧
      ∃ A' c', (∀ W : World, (Instr.slice 28 (.slice A2 m c2) (some (.int .i64 (n : Int))) none none).run Try.prog W = .ok (.slice A' (m - n) c') W) ∧ Kd.Q kT 46 w 0 ok (.slice A' (m - n) c') (ys.drop n) := by
  obtain ⟨hm, hmc, _⟩ := Kd.Q_reads' hq
  obtain ⟨i0, hi0, hz⟩ := Option.map_eq_some_iff.1 info46
  simp only [Prod.mk.injEq] at hz
  have h1 := cut_to (P := Try.prog) 28 46 .i64 Try.underlying28 hi0 A2 m c2 (n : Int) (by omega) (by omega) hmc
  rw [show ((n : Int)).toNat = n from by simp] at h1
  have h2 := cut_from (P := Try.prog) 28 46 .i64 Try.underlying28 hi0 2 hz.2.1 A2 m c2 (n : Int) (by omega) (by omega)
  rw [show ((n : Int)).toNat = n from by simp] at h2
  have h3 := Kd.Q_drop (k := n) hq (by omega)
  exact ⟨h1, Kd.Q_take hq (by omega), _, _, h2, h3⟩
section
variable {ok ok' : Nat → Prop} {w w1 w2 : World} {p : Nat} {R R' L1 : Tms} {v v1 : Value}
theorem RAt.below (h : RAt ok w p R v) (hb : Below w.heap.size w w1) : RAt ok w1 p R v := ⟨h.pk, blk_below h.blk hb, Kd.R_below h.row hb⟩
theorem IsR.below (h : IsR ok w p R) (hb : Below w.heap.size w w1) : IsR ok w1 p R := by
  obtain ⟨v, h⟩ := h
  exact ⟨v, h.below hb⟩
theorem IsR.refoot (h : IsR ok w p R) (H : ∀ k, ok k → k < w.heap.size → ok' k) : IsR ok' w p R := by
  obtain ⟨v, h⟩ := h
  exact ⟨v, H p h.pk (blk_lt h.blk), h.blk, Kd.R_mono (Kd.R_bound h.row) (fun k hk => ⟨H k hk.1.1 hk.2.2.1, hk.1.2⟩)⟩
theorem IsR.move (h : IsR ok w p R) (H : ∀ k, ok k → k < w.heap.size → w1.heap[k]? = w.heap[k]?) : IsR ok w1 p R := by
  obtain ⟨v, h⟩ := h
  exact ⟨v, h.pk, (H p h.pk (blk_lt h.blk)).trans h.blk, Kd.R_mono (Kd.R_move (Kd.R_bound h.row) (fun k hk => H k hk.1.1 hk.2.2.1)) (fun k hk => hk.1)⟩
theorem RAt.form (h : RAt ok w p R v) : ∃ A cap, v = .slice A R.length cap ∧ R.length ≤ cap := by
  obtain ⟨A, c, rfl, hc, _⟩ := Kd.R_reads h.row
  exact ⟨A, c, rfl, hc⟩
theorem RAt.cell (h : RAt ok w p R v) : w.cell? ⟨p, 0, none⟩ = some v := (blk_cell h.blk 0).trans rfl
theorem RAt.elem {A : Option Addr} {n cap : Nat} (h : RAt ok w p R (.slice A n cap)) {i : Nat} {q : Tm} (hq : R[i]? = some q) :
    ∃ g, A = some ⟨g, 0, none⟩ ∧ w.cell? ⟨g, i * 2, none⟩ = some (.string q.1) ∧ w.cell? ⟨g, i * 2 + 1, none⟩ = some (.int .i64 q.2) := by
  obtain ⟨hn, _, _⟩ := Kd.R_reads' h.row
  have hi : i < R.length := (List.getElem?_eq_some_iff.1 hq).1
  obtain ⟨g, cap', he, _, _, _⟩ := Kd.R_form h.row (by omega)
  cases he
  obtain ⟨c, hcl, hM, hcc, hfz⟩ := Kd.R_elem h.row (⟨#[]⟩, 0) (i : Int) (by omega) (by omega)
  have hge : R.getD ((i : Int)).toNat (⟨#[]⟩, 0) = q := by simp [List.getD_eq_getElem?_getD, hq]
  rw [hge] at hM
  have e := kT_open hM
  subst e
  rw [kT_sz, show ((i : Int)).toNat = i from by simp] at hcc
  exact ⟨g, rfl, hcc 0 _ rfl, hcc 1 _ rfl⟩
/-- The row is another. -/
theorem RAt.newRow (h : RAt ok w p R v) (hB : Below w.heap.size w w1) (hR : Kd.R kT 46 w1 0 (fun k => ok k ∧ k ≠ p) v1 L1) : RAt ok (w1.setCell ⟨p, 0, none⟩ v1) p L1 v1 ∧ Fz ok w (w1.setCell ⟨p, 0, none⟩ v1) := by
  have h5 := h.below hB
  exact ⟨⟨h.pk, blk_put h5.blk 0 v1 rfl, Kd.R_far hR (fun k hk => hk.2) v1⟩, ((Fz.refl ok w).trans (Fz.of_below hB _)).set h5.blk (by simp) h.pk 0 v1⟩
end
theorem del_cut {L : Tms} (hn : nd L) {i : Nat} {k : ByteArray} {d : Int} (h : L[i]? = some (k, d)) : L.take i ++ L.drop (i + 1) = mdel L k := by
  have h1 : mdel L k = L.eraseIdx i := mdel_at hn h
  rw [h1, List.eraseIdx_eq_take_drop_succ]
theorem eq_list {a b : ByteArray} : (a.toList == b.toList) = decide (a = b) := by
  by_cases h : a = b
  · subst h; simp
  · have : a.toList ≠ b.toList := fun e => h (toList_inj e)
    simp [h, this]
section
variable (R : Tms) (hl : R.length ≤ 1000) (hn : nd R) (ok : Nat → Prop) (p : Nat) (w : World) (hok : ∀ k, w.heap.size ≤ k → ok k) (h : IsR ok w p R)
include hl hn hok h
set_option maxHeartbeats 4000000 in
set_option maxRecDepth 100000 in
theorem RDue_calls (key : ByteArray) : Calls Try.prog 15 #[.pointer (some ⟨p, 0, none⟩), .string key] w fun e w' => e = .returned (.tuple #[.int .i64 (due R key), .bool (there R key)]) ∧ w = w' := by
  obtain ⟨v, h⟩ := h
  obtain ⟨A, cap, rfl, hcap⟩ := h.form
  have p1 := h.cell
  have h' := Aside0.mk h
  have hn' := Aside0.mk hn
  obtain ⟨dv, hdv⟩ : ∃ dv, due R key = dv := ⟨_, rfl⟩
  obtain ⟨bv, hbv⟩ : ∃ bv, there R key = bv := ⟨_, rfl⟩
  rw [hdv, hbv]
  have hdv' := Aside0.mk hdv
  have hbv' := Aside0.mk hbv
  clear h hn hok hdv hbv
  go_enter Try.func15, Try.ntmps15
  go_wp2_with fail
  go_loopg [12] (R.length + 1) (fun kq v12 w' => ∃ (i : Nat), v12 = .int .i64 (i : Int) ∧ Aside0 (kq + i = R.length + 1) ∧ Aside0 (i ≤ R.length) ∧ Aside0 (∀ j q, j < i → R[j]? = some q → q.1 ≠ key) ∧ w' = w)
  case atStart => exact ⟨0, rfl, ⟨by omega⟩, ⟨by omega⟩, ⟨fun j q hj => absurd hj (by omega)⟩, rfl⟩
  case round =>
    obtain ⟨i, rfl, hk, hi, hnf, rfl⟩ := hrel
    by_cases hlt : i < R.length
    · have hd : decide ((i : Int) < (R.length : Int)) = true := decide_eq_true (by omega)
      have hd' : decide (i < R.length) = true := decide_eq_true hlt
      cases gk with
      | zero => exact absurd hk.out (by omega)
      | succ k1 =>
        have hlt' := Aside0.mk hlt
        have q1 : (i : Int) < (R.length : Int) := by omega
        obtain ⟨⟨qk, qd⟩, hq⟩ : ∃ q, R[i]? = some q := ⟨_, List.getElem?_eq_getElem hlt⟩
        obtain ⟨g, rfl, x0, x1⟩ := h'.out.elem hq
        simp only [] at x0 x1
        have hq' := Aside0.mk hq
        clear hq
        by_cases e1 : qk = key
        · subst e1
          have hlk : mlook R qk = some qd := mlook_at hn'.out hq'.out
          have hdu : dv = qd := by rw [← hdv'.out]; unfold due; rw [hlk]; rfl
          have hth : bv = true := by rw [← hbv'.out]; unfold there; rw [hlk]; rfl
          subst hdu hth
          clear hlk
          go_wp2_with fail
          refine bodyPost_ret (v := .tuple #[.int .i64 dv, .bool true]) (by simp [results, Try.results15, go_sem]) rfl ?_
          exact ⟨rfl, rfl⟩
        · have e1' : (qk.toList == key.toList) = false := by rw [eq_list]; exact decide_eq_false e1
          have e1'' := Aside0.mk e1
          clear e1
          go_wp2_with fail
          go_roundg k1
          case measure => have := hk.out; omega
          case rel => exact ⟨i + 1, by go_num, ⟨by have := hk.out; omega⟩, ⟨by have := hlt'.out; omega⟩, ⟨fun j q hj hq => by
              by_cases hji : j = i
              · subst hji
                rw [hq'.out] at hq
                cases hq
                exact e1''.out
              · exact hnf.out j q (by omega) hq⟩, rfl⟩
    · have hd : decide ((i : Int) < (R.length : Int)) = false := decide_eq_false (by omega)
      have hd' : decide (i < R.length) = false := decide_eq_false hlt
      have hlk : mlook R key = none := mlook_none.2 (fun q hq => by
        obtain ⟨j, hj⟩ := List.getElem?_of_mem hq
        exact hnf.out j q (by have := (List.getElem?_eq_some_iff.1 hj).1; have := hi.out; omega) hj)
      have hdu : dv = 0 := by rw [← hdv'.out]; unfold due; rw [hlk]; rfl
      have hth : bv = false := by rw [← hbv'.out]; unfold there; rw [hlk]; rfl
      subst hdu hth
      clear hlk hlt
      go_wp2
      refine bodyPost_ret (v := .tuple #[.int .i64 0, .bool false]) (by simp [results, Try.results15, go_sem]) rfl ?_
      exact ⟨rfl, rfl⟩
set_option maxHeartbeats 4000000 in
set_option maxRecDepth 100000 in
theorem RStop_calls (key : ByteArray) : Calls Try.prog 10 #[.pointer (some ⟨p, 0, none⟩), .string key] w fun e w' => e = .returned (.bool (there R key)) ∧ IsR ok w' p (mdel R key) ∧ Fz ok w w' := by
  obtain ⟨v, h⟩ := h
  obtain ⟨A, cap, rfl, hcap⟩ := h.form
  have x2 := h.cell
  have h' := Aside0.mk h
  have hn' := Aside0.mk hn
  have hok' := Aside0.mk hok
  have hl' := Aside0.mk hl
  obtain ⟨m, hm⟩ : ∃ m, R.length = m := ⟨_, rfl⟩
  rw [hm] at x2 hl h' hcap
  have hm' := Aside0.mk hm
  obtain ⟨bv, hbv⟩ : ∃ bv, there R key = bv := ⟨_, rfl⟩
  obtain ⟨L1, hL1⟩ : ∃ L1, mdel R key = L1 := ⟨_, rfl⟩
  rw [hL1, hbv]
  have hL1' := Aside0.mk hL1
  have hbv' := Aside0.mk hbv
  clear h hn hok hL1 hbv
  go_enter Try.func10, Try.ntmps10
  go_wp2_with fail
  go_loopg [11] (m + 1) (fun kq v11 w' => ∃ (i : Nat), v11 = .int .i64 (i : Int) ∧ Aside0 (kq + i = m + 1) ∧ Aside0 (i ≤ m) ∧ Aside0 (∀ j q, j < i → R[j]? = some q → q.1 ≠ key) ∧ w' = w)
  case atStart => exact ⟨0, rfl, ⟨by omega⟩, ⟨by omega⟩, ⟨fun j q hj => absurd hj (by omega)⟩, rfl⟩
  case round =>
    obtain ⟨i, rfl, hk, hi, hnf, rfl⟩ := hrel
    by_cases hlt : i < m
    · have hd : decide ((i : Int) < (m : Int)) = true := decide_eq_true (by omega)
      have hd' : decide (i < m) = true := decide_eq_true hlt
      cases gk with
      | zero => exact absurd hk.out (by omega)
      | succ k1 =>
        have hlt' := Aside0.mk hlt
        have q1 : (i : Int) < (m : Int) := by omega
        obtain ⟨⟨qk, qd⟩, hq⟩ : ∃ q, R[i]? = some q := ⟨_, List.getElem?_eq_getElem (by rw [hm]; exact hlt)⟩
        obtain ⟨g, hA, x0, x1⟩ := h'.out.elem hq
        simp only [] at x0 x1
        have hq' := Aside0.mk hq
        clear hq hm
        by_cases e1 : qk = key
        · subst e1
          have hlk : mlook R qk = some qd := mlook_at hn'.out hq'.out
          have hth : bv = true := by rw [← hbv'.out]; unfold there; rw [hlk]; rfl
          subst hth
          have hys' : Aside0 (R.take i ++ R.drop (i + 1) = L1) := ⟨by rw [← hL1'.out]; exact del_cut hn'.out hq'.out⟩
          clear hlk
          have hx0 := Aside0.mk x0
          have hA' := Aside0.mk hA
          subst hA
          go_upto_region 5 with fail
          have hrow := h'.out.row
          obtain ⟨hcut1, hq1, A3, c3', hcut2, hq2⟩ := cuts (Kd.Q_mono (Kd.Q_bound (Kd.Q_of_R hrow)) (ok' := fun k => (ok k ∧ k ≠ p) ∧ k < wr.heap.size) (fun k hk => ⟨hk.1, hk.2.2.1⟩)) hlt
          have htl' : Aside0 ((R.take i).length = i) := ⟨by rw [List.length_take, hm'.out]; omega⟩
          have hp1 : p < wr.heap.size := blk_lt h'.out.blk
          have hok1' : Aside0 (∀ k, wr.heap.size ≤ k → ok k ∧ k ≠ p) := ⟨fun k hk => ⟨hok'.out k hk, by omega⟩⟩
          have f2 := Aside0.mk (blk_frozen h'.out.blk 0)
          have hq1' := Aside0.mk hq1
          have hq2' := Aside0.mk hq2
          have hwr : IntKind.i64.wrap ((i : Int) + 1) = (i : Int) + 1 := by have := hl'.out; simp [IntKind.wrap, IntKind.signed, IntKind.bits]; omega
          have hml := Aside0.mk hl
          have p1 : 0 ≤ (i : Int) := by omega
          clear hrow hq1 hq2 x0 x1 hlt
          go_cut [0] (fun v0 wx => v0 = v0 ∧ Aside0 (IsR ok wx p L1) ∧ Aside0 (Fz ok wr wx))
          case first =>
            refine start_ (n := 20) (S := fun w' => w'.cell? ⟨p, 0, none⟩ = some (.slice (some ⟨g, 0, none⟩) m cap)) (ds := [19]) #[false, false, false, false, false, false, false, false, false, false, false, false, false, false, false, false, false, false, false, false] (by kernel_rfl) rfl rfl x2 (fun hHeld => ?_)
            refine pure_ (i := 0) (N := (some 24)) (v := ?_) (a' := ?_) #[true, false, false, false, false, false, false, false, false, false, false, false, false, false, false, false, false, false, false, false] rfl rfl (by kernel_rfl) (fun _ _ _ h => h) (Or.inl ⟨by rfl, ?_⟩) ?_ ?_
            rotate_left
            · intro w'
              go_simp
              with_reducible rfl
            rotate_left
            · simp only [Act.put, List.setIfInBounds_toArray, List.set_cons_zero, List.set_cons_succ, i64_w, i32_w]
              rfl
            refine pure_ (i := 2) (N := (some 26)) (v := ?_) (a' := ?_) #[true, false, true, false, false, false, false, false, false, false, false, false, false, false, false, false, false, false, false, false] rfl rfl (by kernel_rfl) (fun _ _ _ h => h) (Or.inl ⟨by rfl, ?_⟩) ?_ ?_
            rotate_left
            · intro w'
              go_simp
              with_reducible rfl
            rotate_left
            · simp only [Act.put, List.setIfInBounds_toArray, List.set_cons_zero, List.set_cons_succ, i64_w, i32_w]
              rfl
            refine pure_ (i := 3) (N := (some 27)) (v := ?_) (a' := ?_) #[true, false, true, true, false, false, false, false, false, false, false, false, false, false, false, false, false, false, false, false] rfl rfl (by kernel_rfl) (fun _ _ _ h => h) (Or.inl ⟨by rfl, ?_⟩) ?_ ?_
            rotate_left
            · intro w'
              go_simp
              with_reducible rfl
            rotate_left
            · simp only [Act.put, List.setIfInBounds_toArray, List.set_cons_zero, List.set_cons_succ, i64_w, i32_w]
              rfl
            refine pure_ (i := 4) (N := (some 28)) (v := ?_) (a' := ?_) #[true, false, true, true, true, false, false, false, false, false, false, false, false, false, false, false, false, false, false, false] rfl rfl (by kernel_rfl) (fun _ _ _ h => h) (Or.inl ⟨by rfl, ?_⟩) ?_ ?_
            rotate_left
            · intro w'
              go_simp
              with_reducible rfl
            rotate_left
            · simp only [Act.put, List.setIfInBounds_toArray, List.set_cons_zero, List.set_cons_succ, i64_w, i32_w]
              rfl
            refine take_ (i := 5) (N := (some 29)) (v := ?_) (a' := ?_) #[true, false, true, true, true, true, false, false, false, false, false, false, false, false, false, false, false, false, false, false] rfl rfl (by kernel_rfl) (fun _ _ _ h => h) (Or.inl ⟨by rfl, ?_⟩) hHeld ?_ ?_
            rotate_left
            · rintro w' s0
              go_simp
              with_reducible rfl
            rotate_left
            · simp only [Act.put, List.setIfInBounds_toArray, List.set_cons_zero, List.set_cons_succ, i64_w, i32_w]
              rfl
            refine pure_ (i := 6) (N := (some 30)) (v := ?_) (a' := ?_) #[true, false, true, true, true, true, true, false, false, false, false, false, false, false, false, false, false, false, false, false] rfl rfl (by kernel_rfl) (fun _ _ _ h => h) (Or.inl ⟨by rfl, ?_⟩) ?_ ?_
            rotate_left
            · intro w'
              go_simp
              with_reducible rfl
            rotate_left
            · simp only [Act.put, List.setIfInBounds_toArray, List.set_cons_zero, List.set_cons_succ, i64_w, i32_w]
              rfl
            refine pure_ (i := 7) (N := (some 31)) (v := ?_) (a' := ?_) #[true, false, true, true, true, true, true, true, false, false, false, false, false, false, false, false, false, false, false, false] rfl rfl (by kernel_rfl) (fun _ _ _ h => h) (Or.inl ⟨by rfl, ?_⟩) ?_ ?_
            rotate_left
            · intro w'
              go_simp
              with_reducible rfl
            rotate_left
            · simp only [Act.put, List.setIfInBounds_toArray, List.set_cons_zero, List.set_cons_succ, i64_w, i32_w]
              rfl
            refine pure_ (i := 9) (N := (some 33)) (v := ?_) (a' := ?_) #[true, false, true, true, true, true, true, true, false, true, false, false, false, false, false, false, false, false, false, false] rfl rfl (by kernel_rfl) (fun _ _ _ h => h) (Or.inl ⟨by rfl, ?_⟩) ?_ ?_
            rotate_left
            · intro w'
              go_simp
              with_reducible rfl
            rotate_left
            · simp only [Act.put, List.setIfInBounds_toArray, List.set_cons_zero, List.set_cons_succ, i64_w, i32_w]
              rfl
            refine pure_ (i := 10) (N := (some 34)) (v := ?_) (a' := ?_) #[true, false, true, true, true, true, true, true, false, true, true, false, false, false, false, false, false, false, false, false] rfl rfl (by kernel_rfl) (fun _ _ _ h => h) (Or.inl ⟨by rfl, ?_⟩) ?_ ?_
            rotate_left
            · intro w'
              go_simp
              with_reducible rfl
            rotate_left
            · simp only [Act.put, List.setIfInBounds_toArray, List.set_cons_zero, List.set_cons_succ, i64_w, i32_w]
              rfl
            refine pure_ (i := 11) (N := (some 35)) (v := ?_) (a' := ?_) #[true, false, true, true, true, true, true, true, false, true, true, true, false, false, false, false, false, false, false, false] rfl rfl (by kernel_rfl) (fun _ _ _ h => h) (Or.inl ⟨by rfl, ?_⟩) ?_ ?_
            rotate_left
            · intro w'
              go_simp
              with_reducible rfl
            rotate_left
            · simp only [Act.put, List.setIfInBounds_toArray, List.set_cons_zero, List.set_cons_succ, i64_w, i32_w]
              rfl
            refine take_ (i := 12) (N := (some 36)) (v := ?_) (a' := ?_) #[true, false, true, true, true, true, true, true, false, true, true, true, true, false, false, false, false, false, false, false] rfl rfl (by kernel_rfl) (fun _ _ _ h => h) (Or.inl ⟨by rfl, ?_⟩) hHeld ?_ ?_
            rotate_left
            · rintro w' s0
              go_simp
              with_reducible rfl
            rotate_left
            · simp only [Act.put, List.setIfInBounds_toArray, List.set_cons_zero, List.set_cons_succ, i64_w, i32_w]
              rfl
            refine pure_ (i := 13) (N := (some 37)) (v := ?_) (a' := ?_) #[true, false, true, true, true, true, true, true, false, true, true, true, true, true, false, false, false, false, false, false] rfl rfl (by kernel_rfl) (fun _ _ _ h => h) (Or.inl ⟨by rfl, ?_⟩) ?_ ?_
            rotate_left
            · intro w'
              go_simp
              with_reducible rfl
            rotate_left
            · simp only [Act.put, List.setIfInBounds_toArray, List.set_cons_zero, List.set_cons_succ, i64_w, i32_w]
              rfl
            refine pure_ (i := 14) (N := (some 38)) (v := ?_) (a' := ?_) #[true, false, true, true, true, true, true, true, false, true, true, true, true, true, true, false, false, false, false, false] rfl rfl (by kernel_rfl) (fun _ _ _ h => h) (Or.inl ⟨by rfl, ?_⟩) ?_ ?_
            rotate_left
            · intro w'
              go_simp
              with_reducible rfl
            rotate_left
            · simp only [Act.put, List.setIfInBounds_toArray, List.set_cons_zero, List.set_cons_succ, i64_w, i32_w]
              rfl
            refine pure_ (i := 15) (N := (some 39)) (v := ?_) (a' := ?_) #[true, false, true, true, true, true, true, true, false, true, true, true, true, true, true, true, false, false, false, false] rfl rfl (by kernel_rfl) (fun _ _ _ h => h) (Or.inl ⟨by rfl, ?_⟩) ?_ ?_
            rotate_left
            · intro w'
              go_simp
              with_reducible rfl
            rotate_left
            · simp only [Act.put, List.setIfInBounds_toArray, List.set_cons_zero, List.set_cons_succ, i64_w, i32_w]
              rfl
            refine one_ (i := 1) (N := (some 25)) #[true, true, true, true, true, true, true, true, false, true, true, true, true, true, true, true, false, false, false, false] rfl rfl (by kernel_rfl) (by decide) (fun K hK => ?_)
            go_simp
            refine hK.out _ _ (keepx x2 (by repeat (first | (with_reducible exact Below.refl _ _) | (with_reducible exact hB3.out) | (with_reducible exact hB4.out) | (with_reducible refine below_drew ?_) | (with_reducible refine below_alloc ?_ _)))) (fun hHeld => ?_)
            clear hK K
            refine one_ (i := 8) (N := (some 32)) #[true, true, true, true, true, true, true, true, true, true, true, true, true, true, true, true, false, false, false, false] rfl rfl (by kernel_rfl) (by decide) (fun K hK => ?_)
            refine Kd.R_append_rows_step kT (w0 := wr) 0 (by rfl) (.tmp 25) (.tmp 31) 28 46 (.agg #[.string ⟨#[]⟩, .int .i64 0]) 24 (by rfl) Try.underlying28 info46 rfl (by decide) (by decide) _ [] (R.take i) (some ⟨g, 0, none⟩) i cap (fun k => ok k ∧ k ≠ p) (fun k => (ok k ∧ k ≠ p) ∧ k < wr.heap.size) (by rfl) (by rfl) (R_mtk kT (by repeat (first | (with_reducible exact blk_new_at (by simp)) | (with_reducible refine blk_alloc ?_ _) | (with_reducible refine blk_drew ?_))) (Nat.zero_le _) (hok1'.out _ (by first | omega | (simp; omega)))) (Q_rows (Kd.Q_below hq1'.out (by repeat (first | (with_reducible exact Below.refl _ _) | (with_reducible exact hB3.out) | (with_reducible exact hB4.out) | (with_reducible refine below_drew ?_) | (with_reducible refine below_alloc ?_ _))))) (fun _ _ hx => hx) (fun k hk => ⟨hk.1, by simp [Value.ownBlock]; omega⟩) (fun k hk => hok1'.out k (by simp at hk; omega)) (below0 (by repeat (first | (with_reducible exact Below.refl _ _) | (with_reducible exact hB3.out) | (with_reducible exact hB4.out) | (with_reducible refine below_drew ?_) | (with_reducible refine below_alloc ?_ _)))) (Nat.zero_le _) (by have := hml.out; have := hlt'.out; simp; omega) ?_
            intro v3 w3 hR3 _ hg3 hat3
            rw [List.nil_append] at hR3
            have hB3 : Aside0 (Below wr.heap.size wr w3) := ⟨pw_below_grown (by repeat (first | (with_reducible exact Below.refl _ _) | (with_reducible exact hB3.out) | (with_reducible exact hB4.out) | (with_reducible refine below_drew ?_) | (with_reducible refine below_alloc ?_ _))) _ (by simp <;> omega) hg3 (fun k e => by simp [Value.ownBlock] at e; omega)⟩
            have hfr3 : Aside0 (∀ k, v3.ownBlock = some k → wr.heap.size ≤ k) := ⟨fun k e => by
              rcases hat3 with e1 | ⟨b, e1, hb⟩
              · rw [e1] at e; simp [Value.ownBlock] at e; omega
              · rw [e1] at e; cases e; simp at hb; omega⟩
            have hR3' := Aside0.mk hR3
            have hs3 : wr.heap.size ≤ w3.heap.size := hB3.out.size
            refine hK.out _ _ (keepx x2 (by repeat (first | (with_reducible exact Below.refl _ _) | (with_reducible exact hB3.out) | (with_reducible exact hB4.out) | (with_reducible refine below_drew ?_) | (with_reducible refine below_alloc ?_ _)))) (fun hHeld => ?_)
            clear hK K
            clear hR3 hg3 hat3
            refine norm_ (a' := Act.put _ (some 32) v3) (by rfl) ?_
            refine one_ (i := 16) (N := (some 40)) #[true, true, true, true, true, true, true, true, true, true, true, true, true, true, true, true, true, false, false, false] rfl rfl (by kernel_rfl) (by decide) (fun K hK => ?_)
            refine Kd.R_append_rows_step kT (w0 := w3) 0 (by rfl) (.tmp 32) (.tmp 39) 28 46 (.agg #[.string ⟨#[]⟩, .int .i64 0]) 24 (by rfl) Try.underlying28 info46 rfl (by decide) (by decide) v3 (R.take i) (R.drop (i + 1)) A3 (m - (i + 1)) c3' (fun k => ok k ∧ k ≠ p) (fun k => (ok k ∧ k ≠ p) ∧ k < wr.heap.size) (by rfl) (by rfl) hR3'.out (Q_rows (Kd.Q_below hq2'.out hB3.out)) (fun _ _ hx => hx) (fun k hk => ⟨hk.1, fun e => by have := hfr3.out k e.symm; omega⟩) (fun k hk => hok1'.out k (by omega)) (Below.refl _ _) (Nat.zero_le _) (by rw [htl'.out]; have := hml.out; have := hlt'.out; omega) ?_
            intro v5 w5 hR5 _ hg5 _
            have hB4 : Aside0 (Below wr.heap.size wr w5) := ⟨pw_below_grown hB3.out _ (by omega) hg5 (fun k e => hfr3.out k e)⟩
            rw [hys'.out] at hR5
            obtain ⟨A5, c5, e5⟩ := Kd.R_slice hR5
            subst e5
            have hfin := Aside0.mk (h'.out.newRow hB4.out hR5)
            have f5 := (hB4.out.frozen (p := ⟨p, 0, none⟩) hp1).trans f2.out
            clear hR5 hg5
            refine hK.out _ _ (keepx x2 (by repeat (first | (with_reducible exact Below.refl _ _) | (with_reducible exact hB3.out) | (with_reducible exact hB4.out) | (with_reducible refine below_drew ?_) | (with_reducible refine below_alloc ?_ _)))) (fun hHeld => ?_)
            clear hK K
            refine pure_ (i := 17) (N := (some 41)) (v := ?_) (a' := ?_) #[true, true, true, true, true, true, true, true, true, true, true, true, true, true, true, true, true, true, false, false] rfl rfl (by kernel_rfl) (fun _ _ _ h => h) (Or.inl ⟨by rfl, ?_⟩) ?_ ?_
            rotate_left
            · intro w'
              go_simp
              with_reducible rfl
            rotate_left
            · simp only [Act.put, List.setIfInBounds_toArray, List.set_cons_zero, List.set_cons_succ, i64_w, i32_w]
              rfl
            refine pure_ (i := 18) (N := (some 42)) (v := ?_) (a' := ?_) #[true, true, true, true, true, true, true, true, true, true, true, true, true, true, true, true, true, true, true, false] rfl rfl (by kernel_rfl) (fun _ _ _ h => h) (Or.inl ⟨by rfl, ?_⟩) ?_ ?_
            rotate_left
            · intro w'
              go_simp
              with_reducible rfl
            rotate_left
            · simp only [Act.put, List.setIfInBounds_toArray, List.set_cons_zero, List.set_cons_succ, i64_w, i32_w]
              rfl
            refine last_ (i := 19) (N := none) #[true, true, true, true, true, true, true, true, true, true, true, true, true, true, true, true, true, true, true, true] rfl rfl (by kernel_rfl) (by decide) (fun K hK => ?_)
            have s0 := hHeld
            go_simp
            refine hK.out _ _ ?_
            clear hK K
            refine done_ (by kernel_rfl) ?_
            go_wp2_with fail
            go_meet
            exact ⟨trivial, ⟨⟨_, hfin.out.1⟩⟩, ⟨hfin.out.2⟩⟩
          case rest =>
            obtain ⟨_, h5, h6⟩ := hcut
            go_wp2_with fail
            go_ret
            exact ⟨rfl, h5.out, h6.out⟩
        · have e1' : (qk.toList == key.toList) = false := by rw [eq_list]; exact decide_eq_false e1
          have e1'' := Aside0.mk e1
          subst hA
          clear e1
          go_wp2_with fail
          go_roundg k1
          case measure => have := hk.out; omega
          case rel => exact ⟨i + 1, by go_num, ⟨by have := hk.out; omega⟩, ⟨by have := hlt'.out; omega⟩, ⟨fun j q hj hq => by
              by_cases hji : j = i
              · subst hji
                rw [hq'.out] at hq
                cases hq
                exact e1''.out
              · exact hnf.out j q (by omega) hq⟩, rfl⟩
    · have hd : decide ((i : Int) < (m : Int)) = false := decide_eq_false (by omega)
      have hd' : decide (i < m) = false := decide_eq_false hlt
      have hlk : mlook R key = none := mlook_none.2 (fun q hq => by
        obtain ⟨j, hj⟩ := List.getElem?_of_mem hq
        exact hnf.out j q (by have := (List.getElem?_eq_some_iff.1 hj).1; have := hi.out; omega) hj)
      have hth : bv = false := by rw [← hbv'.out]; unfold there; rw [hlk]; rfl
      have hmd : L1 = R := by rw [← hL1'.out]; exact mdel_none (mlook_none.1 hlk)
      subst hth hmd
      clear hlk hlt hm
      go_wp2
      go_ret
      exact ⟨rfl, ⟨_, h'.out⟩, Fz.refl _ _⟩
end
end Go.Proofs.Ytdfghndcengkaaa.Tmr
