/- Do: a call on both, walked (printed by genDo.py). -/
import Derived.Test.YtnplnelhodnonaaDkBoth
namespace Go.Proofs.Ytnplnelhodnonaa.Dsk
open Go.RowKit Go.Proofs.YtnplnelhodnonaaW.PrintWords Go.Proofs.YtnplnelhodnonaaW.PrintLast Go.Proofs.YtnplnelhodnonaaW.PrintMore Go.Proofs.Ytnplnelhodnonaa.PDiskNil
open Amap Frm
set_option linter.unusedVariables false
set_option linter.unusedSimpArgs false
structure Opr where
  kd : Int
  a : Int
  b : Int
  y : Int
  x : List Int
  ks : List Int
def doD (S : DSt) (o : Opr) : DSt :=
  if o.kd = 1 then (dappend S o.a o.x).1 else if o.kd = 2 then (dsync S o.a).1 else if o.kd = 3 then (ddrop S o.a).1 else if o.kd = 5 then setFuse S o.a else if o.kd = 6 then setRoom S o.a else if o.kd = 7 then dcrash S o.ks else if o.kd = 8 then (dspoil S o.a o.b (xorB o.y)).1 else S
def doR (R : RSt) (o : Opr) : RSt :=
  if o.kd = 1 then (rappend R o.a o.x).1 else if o.kd = 2 then (rsync R o.a).1 else if o.kd = 3 then (rdrop R o.a).1 else if o.kd = 5 then rsetFuse R o.a else if o.kd = 6 then rsetRoom R o.a else if o.kd = 7 then rcrash R o.ks else if o.kd = 8 then (rspoil R o.a o.b (xorB o.y)).1 else R
theorem domI_le {a : Int} (h : domI a) : -9223372036854775808 ≤ a ∧ a ≤ 9223372036854775807 := by
  unfold domI at h
  simp [Lit.wf, IntKind.wrap, IntKind.signed, IntKind.bits] at h
  have h1 : IntKind.i64.min = -9223372036854775808 := by decide
  have h2 : IntKind.i64.max = 9223372036854775807 := by decide
  omega
theorem Inv.op {n : Nat} {S : DSt} {R : RSt} (h : Inv n S R) (o : Opr) (ha : domI o.a) (hx : o.x.length ≤ 50000) : Inv (n + 1) (doD S o) (doR R o) := by
  have hl := (domI_le ha).2
  unfold doD doR
  by_cases h1 : o.kd = 1
  · rw [if_pos h1, if_pos h1]; exact (h.append o.a hl o.x hx).2
  rw [if_neg h1, if_neg h1]
  by_cases h2 : o.kd = 2
  · rw [if_pos h2, if_pos h2]; exact (h.sync o.a).2.le (Nat.le_succ _)
  rw [if_neg h2, if_neg h2]
  by_cases h3 : o.kd = 3
  · rw [if_pos h3, if_pos h3]; exact (h.drop o.a).2.le (Nat.le_succ _)
  rw [if_neg h3, if_neg h3]
  by_cases h5 : o.kd = 5
  · rw [if_pos h5, if_pos h5]; exact (h.setFuse o.a hl).le (Nat.le_succ _)
  rw [if_neg h5, if_neg h5]
  by_cases h6 : o.kd = 6
  · rw [if_pos h6, if_pos h6]; exact (h.setRoom o.a hl).le (Nat.le_succ _)
  rw [if_neg h6, if_neg h6]
  by_cases h7 : o.kd = 7
  · rw [if_pos h7, if_pos h7]; exact (h.crash o.ks).le (Nat.le_succ _)
  rw [if_neg h7, if_neg h7]
  by_cases h8 : o.kd = 8
  · rw [if_pos h8, if_pos h8]; exact (h.spoil o.a o.b _).2.le (Nat.le_succ _)
  rw [if_neg h8, if_neg h8]
  exact h.le (Nat.le_succ _)
theorem O6 {w : World} {b : Nat} {k a c y : Int} {u v : Value} (h : w.heap[b]? = some (.cells #[.int .i64 k, .int .i64 a, .int .i64 c, .int .u8 y, u, v] 33 (0, 0))) :
    w.cell? ⟨b, 0, none⟩ = some (.int .i64 k) ∧ w.cell? ⟨b, 1, none⟩ = some (.int .i64 a) ∧ w.cell? ⟨b, 2, none⟩ = some (.int .i64 c) ∧ w.cell? ⟨b, 3, none⟩ = some (.int .u8 y) ∧ w.cell? ⟨b, 4, none⟩ = some u ∧ w.cell? ⟨b, 5, none⟩ = some v :=
  ⟨(blk_cell h 0).trans rfl, (blk_cell h 1).trans rfl, (blk_cell h 2).trans rfl, (blk_cell h 3).trans rfl, (blk_cell h 4).trans rfl, (blk_cell h 5).trans rfl⟩
theorem op1 {base : Nat} {w w1 : World} {b : Nat} {k a c y : Int} {u v : Value} (h : w.heap[b]? = some (.cells #[.int .i64 k, .int .i64 a, .int .i64 c, .int .u8 y, u, v] 33 (0, 0))) (n : Nx base w w1) : w1.cell? ⟨b, 1, none⟩ = some (.int .i64 a) := (O6 (n.blk h (by simp))).2.1
theorem op14 {base : Nat} {w w1 : World} {b : Nat} {k a c y : Int} {u v : Value} (h : w.heap[b]? = some (.cells #[.int .i64 k, .int .i64 a, .int .i64 c, .int .u8 y, u, v] 33 (0, 0))) (n : Nx base w w1) : w1.cell? ⟨b, 1, none⟩ = some (.int .i64 a) ∧ w1.cell? ⟨b, 4, none⟩ = some u := ⟨(O6 (n.blk h (by simp))).2.1, (O6 (n.blk h (by simp))).2.2.2.2.1⟩
theorem op123 {base : Nat} {w w1 : World} {b : Nat} {k a c y : Int} {u v : Value} (h : w.heap[b]? = some (.cells #[.int .i64 k, .int .i64 a, .int .i64 c, .int .u8 y, u, v] 33 (0, 0))) (n : Nx base w w1) : w1.cell? ⟨b, 1, none⟩ = some (.int .i64 a) ∧ w1.cell? ⟨b, 2, none⟩ = some (.int .i64 c) ∧ w1.cell? ⟨b, 3, none⟩ = some (.int .u8 y) := ⟨(O6 (n.blk h (by simp))).2.1, (O6 (n.blk h (by simp))).2.2.1, (O6 (n.blk h (by simp))).2.2.2.1⟩
set_option maxHeartbeats 8000000 in
set_option maxRecDepth 100000 in
theorem Do_calls {base pd pr n : Nat} {w : World} {S : DSt} {R : RSt} (h : Both base w pd pr S R) (hbase : base ≤ w.heap.size) (hI : Inv n S R) (hn : n ≤ 399) (kd xa xb y : Int) (hk : domI xa) (A4 : Option Addr) (c4 : Nat) (x : List Int) (hC4 : ∀ w1, Nx base w w1 → Kd.C (Kd.int .u8) w1 A4 x.length x) (hx : x.length ≤ 50000) (A5 : Option Addr) (c5 : Nat) (ks : List Int) (hC5 : ∀ w1, Nx base w w1 → Kd.C (Kd.int .i64) w1 A5 ks.length ks) (hks : ks.length ≤ 100) (hc5 : ks.length ≤ c5) :
    Calls Try.prog 14 #[.pointer (some ⟨pd, 0, none⟩), .pointer (some ⟨pr, 0, none⟩), .agg #[.int .i64 kd, .int .i64 xa, .int .i64 xb, .int .u8 y, .slice A4 x.length c4, .slice A5 ks.length c5]] w fun e w' => e = .returned (.bool true) ∧ Both base w' pd pr (doD S ⟨kd, xa, xb, y, x, ks⟩) (doR R ⟨kd, xa, xb, y, x, ks⟩) ∧ Nx base w w' := by
  have h' := Aside0.mk h
  have hI' := Aside0.mk hI
  have hk' := Aside0.mk hk
  have hC4' := Aside0.mk hC4
  have hC5' := Aside0.mk hC5
  have hdD : Aside0 (∀ o : Opr, doD S o = doD S o) := ⟨fun _ => rfl⟩
  obtain ⟨S1, hS1⟩ : ∃ S1, doD S ⟨kd, xa, xb, y, x, ks⟩ = S1 := ⟨_, rfl⟩
  obtain ⟨R1, hR1⟩ : ∃ R1, doR R ⟨kd, xa, xb, y, x, ks⟩ = R1 := ⟨_, rfl⟩
  rw [hS1, hR1]
  have hS1' := Aside0.mk hS1
  have hR1' := Aside0.mk hR1
  have hn' := Aside0.mk (show n ≤ 400 by omega)
  clear h hI hk hC4 hC5 hS1 hR1
  go_enter Try.func14, Try.ntmps14
  go_upto_block 0 with fail
  refine wp_world (fun W hW => ?_)
  have hO : Aside0 (W.heap[w.heap.size]? = some (.cells #[.int .i64 kd, .int .i64 xa, .int .i64 xb, .int .u8 y, .slice A4 x.length c4, .slice A5 ks.length c5] 33 (0, 0))) := ⟨by rw [hW]; exact blk_new _ _⟩
  have hbW : Below w.heap.size w W := by rw [hW]; exact below_alloc (Below.refl _ _) _
  have hnW := Aside0.mk (Nx.of_below (w := w) (w1 := W) hbase hbW)
  have hB := Aside0.mk (h'.out.below hbW)
  have hsW : base ≤ W.heap.size := Nat.le_trans hbase hbW.size
  have hC4W : Aside0 (∀ w1, Nx base W w1 → Kd.C (Kd.int .u8) w1 A4 x.length x) := ⟨fun w1 h1 => hC4'.out w1 (hnW.out.trans h1)⟩
  have hC5W : Aside0 (∀ w1, Nx base W w1 → Kd.C (Kd.int .i64) w1 A5 ks.length ks) := ⟨fun w1 h1 => hC5'.out w1 (hnW.out.trans h1)⟩
  obtain ⟨g, hg⟩ : ∃ g, w.heap.size = g := ⟨_, rfl⟩
  rw [hg] at hO
  rw [hg]
  obtain ⟨o0, o1, o2, o3, o4, o5⟩ := O6 hO.out
  clear hW hbW hg hC4' hC5' h' o1 o2 o3 o4 o5 hbase
  by_cases k1 : kd = 1
  · subst k1
    clear o0
    obtain ⟨E, hE⟩ : ∃ E, (dappend S xa x).2 = E := ⟨_, rfl⟩
    have hE' := Aside0.mk hE
    clear hE
    go_upto_region 3 with fail
    obtain ⟨o0, o1, o2, o3, o4, o5⟩ := O6 hO.out
    clear o0 o2 o3 o5
    have c1 := Aside0.mk (bAppend (hB.out.below (below_drew (Below.refl _ _))) hsW hI'.out hn'.out xa hk'.out A4 c4 x (fun w1 h1 => hC4W.out w1 ((Nx.refl _ _).drew.trans h1)) hx E hE'.out)
    go_region_held3 (fun w' => w'.cell? ⟨g, 1, none⟩ = some (.int .i64 xa) ∧ w'.cell? ⟨g, 4, none⟩ = some (.slice A4 x.length c4))
      (refine op14 (base := base) (w := W) hO.out (by repeat (first | (with_reducible exact Nx.refl _ _) | (with_reducible exact hn4.out) | (with_reducible exact hn5.out) | (with_reducible refine Nx.drew ?_))))
      (first
        | (go_at_call 23; (with_reducible refine c1.out.mono ?_); rintro e w4 ⟨rfl, hB4, hn4⟩; have hB4' := Aside0.mk hB4; have hn4 : Aside0 (Nx base W w4) := ⟨(Nx.refl _ _).drew.trans hn4⟩; have hs4 : base ≤ w4.heap.size := Nat.le_trans hsW hn4.out.size; clear hB4)
        | (go_at_call 41; (with_reducible refine (rAppend hB4'.out hs4 hI'.out hn'.out xa hk'.out A4 c4 x (fun w1 h1 => hC4W.out w1 (hn4.out.trans h1)) hx E hE'.out).mono ?_); rintro e w5 ⟨rfl, hB5, hn5⟩; have hB5' := Aside0.mk hB5; have hn5 : Aside0 (Nx base W w5) := ⟨hn4.out.trans hn5⟩; clear hB5)
        | fail)
    go_wp2_with fail
    go_ret
    refine ⟨by simp, ?_, hnW.out.trans hn5.out⟩
    rw [← hS1'.out, ← hR1'.out]
    exact hB5'.out
  · have k1' : (kd == 1) = false := by simpa using k1
    have q1 := Aside0.mk k1
    clear k1
    by_cases k2 : kd = 2
    · subst k2
      clear o0
      obtain ⟨E, hE⟩ : ∃ E, (dsync S xa).2 = E := ⟨_, rfl⟩
      have hE' := Aside0.mk hE
      clear hE
      go_upto_region 5 with fail
      obtain ⟨o0, o1, o2, o3, o4, o5⟩ := O6 hO.out
      clear o0 o2 o3 o4 o5
      have c1 := Aside0.mk (bSync (hB.out.below (below_drew (Below.refl _ _))) hsW xa hk'.out E hE'.out)
      go_region_held3 (fun w' => w'.cell? ⟨g, 1, none⟩ = some (.int .i64 xa))
        (refine op1 (base := base) (w := W) hO.out (by repeat (first | (with_reducible exact Nx.refl _ _) | (with_reducible exact hn4.out) | (with_reducible exact hn5.out) | (with_reducible refine Nx.drew ?_))))
        (first
          | (go_at_call 24; (with_reducible refine c1.out.mono ?_); rintro e w4 ⟨rfl, hB4, hn4⟩; have hB4' := Aside0.mk hB4; have hn4 : Aside0 (Nx base W w4) := ⟨(Nx.refl _ _).drew.trans hn4⟩; have hs4 : base ≤ w4.heap.size := Nat.le_trans hsW hn4.out.size; clear hB4)
          | (go_at_call 42; (with_reducible refine (rSync hB4'.out hs4 hI'.out hn'.out xa E hE'.out).mono ?_); rintro e w5 ⟨rfl, hB5, hn5⟩; have hB5' := Aside0.mk hB5; have hn5 : Aside0 (Nx base W w5) := ⟨hn4.out.trans hn5⟩; clear hB5)
          | fail)
      go_wp2_with fail
      go_ret
      refine ⟨by simp, ?_, hnW.out.trans hn5.out⟩
      rw [← hS1'.out, ← hR1'.out]
      exact hB5'.out
    · have k2' : (kd == 2) = false := by simpa using k2
      have q2 := Aside0.mk k2
      clear k2
      by_cases k3 : kd = 3
      · subst k3
        clear o0
        obtain ⟨E, hE⟩ : ∃ E, (ddrop S xa).2 = E := ⟨_, rfl⟩
        have hE' := Aside0.mk hE
        clear hE
        go_upto_region 7 with fail
        obtain ⟨o0, o1, o2, o3, o4, o5⟩ := O6 hO.out
        clear o0 o2 o3 o4 o5
        have c1 := Aside0.mk (bDrop (hB.out.below (below_drew (Below.refl _ _))) hsW xa hk'.out E hE'.out)
        go_region_held3 (fun w' => w'.cell? ⟨g, 1, none⟩ = some (.int .i64 xa))
          (refine op1 (base := base) (w := W) hO.out (by repeat (first | (with_reducible exact Nx.refl _ _) | (with_reducible exact hn4.out) | (with_reducible exact hn5.out) | (with_reducible refine Nx.drew ?_))))
          (first
            | (go_at_call 25; (with_reducible refine c1.out.mono ?_); rintro e w4 ⟨rfl, hB4, hn4⟩; have hB4' := Aside0.mk hB4; have hn4 : Aside0 (Nx base W w4) := ⟨(Nx.refl _ _).drew.trans hn4⟩; have hs4 : base ≤ w4.heap.size := Nat.le_trans hsW hn4.out.size; clear hB4)
            | (go_at_call 43; (with_reducible refine (rDrop hB4'.out hs4 hI'.out hn'.out xa E hE'.out).mono ?_); rintro e w5 ⟨rfl, hB5, hn5⟩; have hB5' := Aside0.mk hB5; have hn5 : Aside0 (Nx base W w5) := ⟨hn4.out.trans hn5⟩; clear hB5)
            | fail)
        go_wp2_with fail
        go_ret
        refine ⟨by simp, ?_, hnW.out.trans hn5.out⟩
        rw [← hS1'.out, ← hR1'.out]
        exact hB5'.out
      · have k3' : (kd == 3) = false := by simpa using k3
        have q3 := Aside0.mk k3
        clear k3
        by_cases k4 : kd = 4
        · subst k4
          clear o0
          obtain ⟨z, hz⟩ : ∃ z, dread S xa = z := ⟨_, rfl⟩
          obtain ⟨E, hE⟩ : ∃ E, dfind S xa = E := ⟨_, rfl⟩
          have hz' := Aside0.mk hz
          have hE' := Aside0.mk hE
          clear hz hE
          obtain ⟨o0, o1, o2, o3, o4, o5⟩ := O6 hO.out
          clear o2 o3 o4 o5
          go_wp2_with fail
          refine (bRead hB.out hsW hI'.out hn'.out xa hk'.out z E hz'.out hE'.out).mono ?_
          rintro e w4 ⟨A2, c2, rfl, hR4, hb4⟩
          have hs4 : base ≤ w4.heap.size := Nat.le_trans hsW hb4.size
          have hR4' := Aside0.mk hR4
          have hB4' := Aside0.mk (hB.out.below hb4)
          have hb4' := Aside0.mk hb4
          clear hR4 o0 o1
          obtain ⟨o0, o1, o2, o3, o4, o5⟩ := O6 (blk_below hO.out hb4)
          clear o2 o3 o4 o5 hb4
          go_wp2_with fail
          refine (rRead hB4'.out hs4 hI'.out hn'.out xa z E hz'.out hE'.out).mono ?_
          rintro e w5 ⟨A3, c3, rfl, hR5, hb5⟩
          have s1 := Kd.C_string (c := c2) Try.underlying30 Try.underlying5 Try.underlying9 (Kd.R_reads' (Kd.R_below hR4'.out hb5)).2.2
          have s2 := Kd.C_string (c := c3) Try.underlying30 Try.underlying5 Try.underlying9 (Kd.R_reads' hR5).2.2
          have hB5' := Aside0.mk (hB4'.out.below hb5)
          have hn5' := Aside0.mk ((Nx.of_below hsW hb4'.out).trans (Nx.of_below hs4 hb5))
          clear hR5 hb5 o0 o1
          go_wp2_with fail
          go_ret
          refine ⟨by simp, ?_, hnW.out.trans hn5'.out⟩
          rw [← hS1'.out, ← hR1'.out]
          exact hB5'.out
        · have k4' : (kd == 4) = false := by simpa using k4
          have q4 := Aside0.mk k4
          clear k4
          by_cases k5 : kd = 5
          · subst k5
            clear o0
            obtain ⟨o0, o1, o2, o3, o4, o5⟩ := O6 hO.out
            clear o2 o3 o4 o5
            go_wp2_with fail
            refine (bFuse hB.out hsW xa).mono ?_
            rintro e w4 ⟨rfl, hB4, hn4⟩
            have hs4 : base ≤ w4.heap.size := Nat.le_trans hsW hn4.size
            have hst := Aside0.mk (rFuse hB4 hs4 xa)
            have fz := hst.out.2.2
            have hn4' := Aside0.mk hn4
            clear o0 o1
            obtain ⟨o0, o1, o2, o3, o4, o5⟩ := O6 (hn4.blk hO.out (by simp))
            obtain ⟨v0, _, _, r1, r2, r3⟩ := hB4.rcells
            clear o2 o3 o4 o5 hn4 hB4
            go_wp2_with fail
            go_ret
            refine ⟨rfl, ?_, hnW.out.trans (hn4'.out.trans hst.out.2.1)⟩
            rw [← hS1'.out, ← hR1'.out]
            exact hst.out.1
          · have k5' : (kd == 5) = false := by simpa using k5
            have q5 := Aside0.mk k5
            clear k5
            by_cases k6 : kd = 6
            · subst k6
              clear o0
              obtain ⟨o0, o1, o2, o3, o4, o5⟩ := O6 hO.out
              clear o2 o3 o4 o5
              go_wp2_with fail
              refine (bRoom hB.out hsW xa).mono ?_
              rintro e w4 ⟨rfl, hB4, hn4⟩
              have hs4 : base ≤ w4.heap.size := Nat.le_trans hsW hn4.size
              have hst := Aside0.mk (rRoom hB4 hs4 xa)
              have fz := hst.out.2.2
              have hn4' := Aside0.mk hn4
              clear o0 o1
              obtain ⟨o0, o1, o2, o3, o4, o5⟩ := O6 (hn4.blk hO.out (by simp))
              obtain ⟨v0, _, _, r1, r2, r3⟩ := hB4.rcells
              clear o2 o3 o4 o5 hn4 hB4
              go_wp2_with fail
              go_ret
              refine ⟨rfl, ?_, hnW.out.trans (hn4'.out.trans hst.out.2.1)⟩
              rw [← hS1'.out, ← hR1'.out]
              exact hst.out.1
            · have k6' : (kd == 6) = false := by simpa using k6
              have q6 := Aside0.mk k6
              clear k6
              by_cases k7 : kd = 7
              · subst k7
                clear o0
                obtain ⟨o0, o1, o2, o3, o4, o5⟩ := O6 hO.out
                clear o1 o2 o3 o4
                go_wp2_with fail
                refine (bCrash hB.out hsW hI'.out hn'.out A5 c5 ks (fun w1 h1 => hC5W.out w1 h1) hks hc5).mono ?_
                rintro e w4 ⟨rfl, hB4, hn4⟩
                have hs4 : base ≤ w4.heap.size := Nat.le_trans hsW hn4.size
                have hB4' := Aside0.mk hB4
                have hn4' := Aside0.mk hn4
                clear o0 o5
                obtain ⟨o0, o1, o2, o3, o4, o5⟩ := O6 (hn4.blk hO.out (by simp))
                clear o1 o2 o3 o4 hn4 hB4
                go_wp2_with fail
                refine (rCrash hB4'.out hs4 hI'.out hn'.out A5 c5 ks (hC5W.out _ hn4'.out) hks hc5).mono ?_
                rintro e w5 ⟨rfl, hB5, hn5⟩
                have hB5' := Aside0.mk hB5
                have hn5' := Aside0.mk (hn4'.out.trans hn5)
                clear hB5 hn5 o0 o5
                go_wp2_with fail
                go_ret
                refine ⟨rfl, ?_, hnW.out.trans hn5'.out⟩
                rw [← hS1'.out, ← hR1'.out]
                exact hB5'.out
              · have k7' : (kd == 7) = false := by simpa using k7
                have q7 := Aside0.mk k7
                clear k7
                by_cases k8 : kd = 8
                · subst k8
                  clear o0
                  obtain ⟨E, hE⟩ : ∃ E, (dspoil S xa xb (xorB y)).2 = E := ⟨_, rfl⟩
                  have hE' := Aside0.mk hE
                  clear hE
                  go_upto_region 22 with fail
                  obtain ⟨o0, o1, o2, o3, o4, o5⟩ := O6 hO.out
                  clear o0 o4 o5
                  have c1 := Aside0.mk (bSpoil (hB.out.below (below_drew (Below.refl _ _))) hsW hI'.out hn'.out xa xb y hk'.out E hE'.out)
                  go_region_held3 (fun w' => w'.cell? ⟨g, 1, none⟩ = some (.int .i64 xa) ∧ w'.cell? ⟨g, 2, none⟩ = some (.int .i64 xb) ∧ w'.cell? ⟨g, 3, none⟩ = some (.int .u8 y))
                    (refine op123 (base := base) (w := W) hO.out (by repeat (first | (with_reducible exact Nx.refl _ _) | (with_reducible exact hn4.out) | (with_reducible exact hn5.out) | (with_reducible refine Nx.drew ?_))))
                    (first
                      | (go_at_call 26; (with_reducible refine c1.out.mono ?_); rintro e w4 ⟨rfl, hB4, hn4⟩; have hB4' := Aside0.mk hB4; have hn4 : Aside0 (Nx base W w4) := ⟨(Nx.refl _ _).drew.trans hn4⟩; have hs4 : base ≤ w4.heap.size := Nat.le_trans hsW hn4.out.size; clear hB4)
                      | (go_at_call 45; (with_reducible refine (rSpoil hB4'.out hs4 hI'.out hn'.out xa xb y E hE'.out).mono ?_); rintro e w5 ⟨rfl, hB5, hn5⟩; have hB5' := Aside0.mk hB5; have hn5 : Aside0 (Nx base W w5) := ⟨hn4.out.trans hn5⟩; clear hB5)
                      | fail)
                  go_wp2_with fail
                  go_ret
                  refine ⟨by simp, ?_, hnW.out.trans hn5.out⟩
                  rw [← hS1'.out, ← hR1'.out]
                  exact hB5'.out
                · have k8' : (kd == 8) = false := by simpa using k8
                  have q8 := Aside0.mk k8
                  clear k8
                  go_wp2_with fail
                  go_ret
                  refine ⟨rfl, ?_, hnW.out⟩
                  rw [← hS1'.out, ← hR1'.out]
                  unfold doD doR
                  simp only [q1.out, q2.out, q3.out, q5.out, q6.out, q7.out, q8.out, if_false]
                  exact hB.out
end Go.Proofs.Ytnplnelhodnonaa.Dsk
