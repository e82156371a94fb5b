/- LinksKeep, walked. -/
import Derived.Test.YtjghlomkimoeoaaLinkFill
namespace Go.Proofs.Ytjghlomkimoeoaa.Lnk
open Go.RowKit Go.Proofs.YtjghlomkimoeoaaW.PrintWords Go.Proofs.YtjghlomkimoeoaaW.PrintLast Go.Proofs.YtjghlomkimoeoaaW.PrintMore Go.Proofs.Ytjghlomkimoeoaa.PLinksPlay
open Amap Stp
set_option linter.unusedVariables false
set_option linter.unusedSimpArgs false
/-- Another footprint. -/
theorem IsLink.refoot {ok ok' : Nat → Prop} {w : World} {p : Nat} {S : LSt} (h : IsLink ok w p S) (H : ∀ k, ok k → k < w.heap.size → ok' k) : IsLink ok' w p S := by
  obtain ⟨M, b, h⟩ := h
  exact ⟨M, b, H p h.pk (blk_lt h.blk), h.blk, H b h.bk h.map.lt, h.map, h.L, fun q hq => Kd.Q_mono (Kd.Q_bound (h.rows q hq)) (fun k hk => H k hk.1 hk.2.2.1), h.apart⟩
/-- A store elsewhere. -/
theorem IsLink.far {ok : Nat → Prop} {w : World} {p : Nat} {S : LSt} (h : IsLink ok w p S) {g : Nat} (hg : ¬ ok g) (j : Nat) (u : Value) : IsLink ok (w.setCell ⟨g, j, none⟩ u) p S := by
  obtain ⟨M, b, h⟩ := h
  have hp : p ≠ g := fun e => hg (e ▸ h.pk)
  have hb : b ≠ g := fun e => hg (e ▸ h.bk)
  exact ⟨M, b, h.pk, (Below.heap_setCell w ⟨g, j, none⟩ u p hp).trans h.blk, h.bk, h.map.move (Below.heap_setCell w ⟨g, j, none⟩ u b hb), h.L, fun q hq => Kd.Q_far (h.rows q hq) (fun k hk => fun e => hg (by have e' : k = g := e; rw [← e']; exact hk)) u, h.apart⟩
structure Steps3 (x y : List Int) : Prop where
  s1 : send ⟨3, []⟩ (0, 1) x = (⟨3, [((0, 1), [x])]⟩, 0)
  s2 : send ⟨3, [((0, 1), [x])]⟩ (1, 0) y = (⟨3, [((0, 1), [x]), ((1, 0), [y])]⟩, 0)
  s3 : send ⟨3, [((0, 1), [x]), ((1, 0), [y])]⟩ (0, 2) x = (⟨3, [((0, 1), [x]), ((1, 0), [y]), ((0, 2), [x])]⟩, 0)
  p3 : peek ⟨3, [((0, 1), [x]), ((1, 0), [y]), ((0, 2), [x])]⟩ (0, 1) 0 = some x
  t3 : take ⟨3, [((0, 1), [x]), ((1, 0), [y]), ((0, 2), [x])]⟩ (0, 1) 0 = ⟨3, [((0, 1), []), ((1, 0), [y]), ((0, 2), [x])]⟩
  p4 : peek ⟨3, [((0, 1), []), ((1, 0), [y]), ((0, 2), [x])]⟩ (1, 0) 0 = some y
  t4 : take ⟨3, [((0, 1), []), ((1, 0), [y]), ((0, 2), [x])]⟩ (1, 0) 0 = ⟨3, [((0, 1), []), ((1, 0), []), ((0, 2), [x])]⟩
theorem steps3 (x y : List Int) : Steps3 x y := ⟨rfl, rfl, rfl, rfl, rfl, rfl, rfl⟩
theorem small3 {x y : List Int} (hx : x.length ≤ 1000) (hy : y.length ≤ 1000) : Small ⟨3, [((0, 1), [x]), ((1, 0), [y]), ((0, 2), [x])]⟩ ∧ Small ⟨3, [((0, 1), []), ((1, 0), [y]), ((0, 2), [x])]⟩ := by
  constructor
  · exact ⟨by simp [tot], by intro q hq z hz; simp at hq; rcases hq with rfl | rfl | rfl <;> (simp at hz; subst hz; omega)⟩
  · exact ⟨by simp [tot], by intro q hq z hz; simp at hq; rcases hq with rfl | rfl | rfl <;> (simp at hz; try (subst hz; omega))⟩
theorem Fz.mono {ok ok' : Nat → Prop} {w w1 : World} (h : Fz ok w w1) (H : ∀ k, ok k → ok' k) : Fz ok' w w1 := ⟨h.fr, h.kp.below, fun k hk hn => h.kp.same k hk (fun e => hn (H k e))⟩
theorem Send_len (S : LSt) (a c : Int) (hk : domK (a, c)) (A : Option Addr) (n cp : Nat) (x : List Int) (hn : x.length = n) (ok : Nat → Prop) (p : Nat) (w : World) (hok : ∀ k, w.heap.size ≤ k → ok k) (h : IsLink ok w p S)
    (hC : Kd.C (Kd.int .u8) w A n x) (hcp : n ≤ cp) (hx : n ≤ 1000000) :
    Calls Try.prog 19 #[.pointer (some ⟨p, 0, none⟩), .int .i64 a, .int .i64 c, .slice A n cp] w fun e w' => e = .returned (.int .i64 (send S (a, c) x).2) ∧ IsLink ok w' p (send S (a, c) x).1 ∧ Fz ok w w' := by
  subst hn
  exact Send_calls S a c hk A cp x ok p w hok h hC hcp hx
theorem C_of_R {w : World} {base : Nat} {ok : Nat → Prop} {A : Option Addr} {n c : Nat} {x : List Int} (h : Kd.R (Kd.int .u8) 5 w base ok (.slice A n c) x) : Kd.C (Kd.int .u8) w A n x ∧ n ≤ c ∧ n = x.length := by
  obtain ⟨A3, c3, e3, hl3, hC3⟩ := Kd.R_reads h
  cases e3
  exact ⟨hC3, hl3, rfl⟩
theorem info5 : (Try.prog.info? 5).map (fun i => (i.zero, i.size, i.bytes)) = some (some (.int .u8 0), 1, 1) := by kernel_rfl
set_option maxHeartbeats 4000000 in
set_option maxRecDepth 100000 in
theorem keep_calls (n : Nat) (hn : n ≤ 18446744073709551615) (A : Option Addr) (cp : Nat) (x : List Int) (w : World) (hC : Kd.C (Kd.int .u8) w A x.length x) (hcp : x.length ≤ cp) :
    Calls Try.prog 4 #[.slice A x.length cp, .int .u64 (n : Int)] w fun e w' => e = .returned (.bool true) ∧ Below w.heap.size w w' := by
  have hC' := Aside0.mk hC
  have hx : ∃ y, y = x := ⟨x, rfl⟩
  clear hC
  by_cases hl0 : x.length = 0
  · have hd : (((x.length : Nat) : Int) == 0) = true := by simp [hl0]
    have hd1 : decide ((1000 : Int) < (x.length : Int)) = false := decide_eq_false (by omega)
    go_enter Try.func4, Try.ntmps4
    go_wp2_with fail
    refine (awake_calls _).mono ?_
    rintro e w1 ⟨rfl, hb1⟩
    have hb1' := Aside0.mk hb1
    have hs1 : w.heap.size ≤ w1.heap.size := hb1.size
    clear hb1
    go_wp2_with fail
    refine (awake_calls _).mono ?_
    rintro e w2 ⟨rfl, hb2⟩
    have hb2' : Aside0 (Below w.heap.size w w2) := ⟨hb1'.out.trans (hb2.mono hs1)⟩
    clear hb2
    go_wp2
    go_ret
    exact ⟨rfl, hb2'.out⟩
  by_cases hl : x.length ≤ 1000
  · have hd0 : (((x.length : Nat) : Int) == 0) = false := by simpa using hl0
    have hd : decide ((1000 : Int) < (x.length : Int)) = false := decide_eq_false (by omega)
    obtain ⟨k, hkl, hwk⟩ : ∃ k : Nat, k < x.length ∧ wrap64 ((n : Int) % (x.length : Int)) = (k : Int) := ⟨n % x.length, Nat.mod_lt _ (by omega), by
      have h1 : ((n % x.length : Nat) : Int) = (n : Int) % (x.length : Int) := by simp
      have h2 : n % x.length < x.length := Nat.mod_lt _ (by omega)
      rw [← h1]
      unfold wrap64
      omega⟩
    go_enter Try.func4, Try.ntmps4
    go_wp2_with fail
    refine (awake_calls _).mono ?_
    rintro e w1 ⟨rfl, hb1⟩
    have hb1' := Aside0.mk hb1
    have hs1 : w.heap.size ≤ w1.heap.size := hb1.size
    clear hb1
    go_wp2_with fail
    refine (New_calls 3 w1 (up w.heap.size) (fun k hk => Nat.le_trans hs1 hk)).mono ?_
    rintro e w2 ⟨rfl, hL2, hb2⟩
    have hb2' : Aside0 (Below w.heap.size w w2) := ⟨hb1'.out.trans (hb2.mono hs1)⟩
    have hL2' : Aside0 (IsLink (up w.heap.size) w2 (w1.heap.size + 1) ⟨3, []⟩) := ⟨hL2⟩
    have hs2 : w1.heap.size ≤ w2.heap.size := hb2.size
    clear hL2 hb2
    go_upto_region 4 with fail
    have hCw2 := Aside0.mk (Kd.C_below hC'.out hb2'.out)
    have hR3 : Aside0 (Kd.R (Kd.int .u8) 5 (w2.alloc (.cells #[] 5)) w2.heap.size (fun _ => True) (.slice (some ⟨w2.heap.size, 0, none⟩) 0 0) []) := ⟨Kd.R_of_own (own_lit w2 w2.heap.size 5 .u8 [] (Nat.le_refl _) (by simp)) (fun _ _ => trivial)⟩
    go_wp2_with (first
      | ((with_reducible refine gate_builtin (b := .append) (xs := #[.tmp 28, .tmp 29]) rfl ?_); at_builtin
         refine Kd.R_append_row (Value.int .u8) 0 (w0 := w2) w2.heap.size rfl (.tmp 28) (.tmp 29) 25 5 (.int .u8 0) 1 rfl Try.underlying25 info5 rfl (by decide) (.slice (some ⟨w2.heap.size, 0, none⟩) 0 0) [] x A x.length cp (fun _ => True) rfl rfl (fun _ _ => trivial) hR3.out (Kd.C_below hCw2.out (below_alloc (Below.refl _ _) _)) (below_alloc (Below.refl _ _) _) (by simp) (by simp; omega) ?_
         intro v4 w4 hR4 hB4 hg4 hat4
         rw [List.nil_append] at hR4
         obtain ⟨g, cap, e4, hg2, hgl⟩ := (Kd.own_of_R hR4).form (by omega)
         subst e4
         clear hg4 hat4)
      | fail)
    have hs4 : w2.heap.size ≤ w4.heap.size := hB4.size
    obtain ⟨ok, hok⟩ : ∃ ok : Nat → Prop, ok = fun k => w.heap.size ≤ k ∧ k ≠ g := ⟨_, rfl⟩
    have hok4 : ∀ k, w4.heap.size ≤ k → ok k := fun k hk => by rw [hok]; exact ⟨by omega, by omega⟩
    have hokg : ¬ ok g := by rw [hok]; exact fun h => h.2 rfl
    have hoku : ∀ k, ok k → up w.heap.size k := fun k hk => by rw [hok] at hk; exact hk.1
    have hL4 : Aside0 (IsLink ok w4 (w1.heap.size + 1) ⟨3, []⟩) := ⟨(hL2'.out.refoot (fun k h1 h2 => by rw [hok]; exact ⟨h1, by omega⟩)).below hB4⟩
    have hB4' : Aside0 (Below w.heap.size w w4) := ⟨hb2'.out.trans (hB4.mono (by omega))⟩
    have hR4' : Aside0 (Kd.R (Kd.int .u8) 5 w4 w2.heap.size (fun _ => True) (.slice (some ⟨g, 0, none⟩) x.length cap) x) := ⟨hR4⟩
    have hok4' := Aside0.mk hok4
    have hokg' := Aside0.mk hokg
    have hoku' := Aside0.mk hoku
    clear hok hok4 hokg hoku hB4 hR3 hCw2
    refine (Send_calls ⟨3, []⟩ 0 1 (dom_small (by omega) (by omega) (by omega) (by omega)) _ _ x ok _ _ hok4'.out hL4.out (by obtain ⟨A3, c3, e3, _, hC3⟩ := Kd.R_reads hR4; cases e3; exact hC3) (by obtain ⟨A3, c3, e3, hl3, _⟩ := Kd.R_reads hR4; cases e3; exact hl3) (by omega)).mono ?_
    rintro e w5 ⟨rfl, hL5, hf5⟩
    rw [(steps3 x x).s1] at hL5 ⊢
    have hR5 := R_fr hR4'.out hf5.fr (by simp [Kd.int, Kd.scalar])
    obtain ⟨hc5, hz5⟩ := Kd.R_cell (0 : Int) hR5 (k : Int) (by omega) (by omega)
    have hput := Kd.R_put hR5 (k : Int)
    obtain ⟨r0, hr0⟩ : ∃ r0, rdOf 0 x (k : Int) = r0 := ⟨_, rfl⟩
    rw [hr0] at hc5
    clear hr0
    rw [show ((k : Int)).toNat = k from by simp] at hc5 hz5 hput
    have hs5 : w4.heap.size ≤ w5.heap.size := hf5.size
    have hL5' := Aside0.mk hL5
    have hf5' := Aside0.mk hf5
    have hput' := Aside0.mk hput
    clear hL5 hf5 hR4 hR5 hput
    go_wp2_with fail
    obtain ⟨y, hy⟩ : ∃ y, y = x.set k ((r0 + 1) % 256) := ⟨_, rfl⟩
    have hyl : y.length = x.length := by rw [hy]; simp
    obtain ⟨hR6, hg6⟩ := hput'.out ((r0 + 1) % 256)
    rw [← hy] at hR6
    have hL6 := hL5'.out.far hokg'.out k (.int .u8 ((r0 + 1) % 256))
    have hB5 : Below w.heap.size w w5 := hB4'.out.trans ((hf5'.out.mono hoku'.out).up (by have := hB4'.out.size; omega))
    have hB6 : Below w.heap.size w (w5.setCell ⟨g, k, none⟩ (.int .u8 ((r0 + 1) % 256))) := hB5.setCell (by simp; omega) _
    refine (Send_len _ 1 0 (dom_small (by omega) (by omega) (by omega) (by omega)) _ _ _ y hyl ok _ _ (fun k hk => hok4'.out k (by simp at hk; omega)) hL6 (C_of_R hR6).1 (C_of_R hR6).2.1 (by omega)).mono ?_
    rintro e w7 ⟨rfl, hL7, hf7⟩
    rw [(steps3 x y).s2] at hL7 ⊢
    have hR7 := Aside0.mk (R_fr hR6 hf7.fr (by simp [Kd.int, Kd.scalar]))
    have hB7 := Aside0.mk (hB6.trans ((hf7.mono hoku'.out).up (by have := hB6.size; simp at this ⊢; omega)))
    have hs7 : w5.heap.size ≤ w7.heap.size := by have := hf7.size; simpa using this
    have hL7' := Aside0.mk hL7
    clear hR6 hg6 hL6 hB5 hB6 hL7 hf7 hy hc5 hz5
    go_wp2_with fail
    refine (Send_len _ 0 2 (dom_small (by omega) (by omega) (by omega) (by omega)) _ _ _ x rfl ok _ _ (fun k hk => hok4'.out k (by omega)) hL7'.out (Kd.C_below hC'.out hB7.out) hcp (by omega)).mono ?_
    rintro e w8 ⟨rfl, hL8, hf8⟩
    rw [(steps3 x y).s3] at hL8 ⊢
    have hR8 := Aside0.mk (R_fr hR7.out hf8.fr (by simp [Kd.int, Kd.scalar]))
    have hB8 := Aside0.mk (hB7.out.trans ((hf8.mono hoku'.out).up hB7.out.size))
    have hs8 : w7.heap.size ≤ w8.heap.size := hf8.size
    have hL8' := Aside0.mk hL8
    clear hL8 hf8
    have hsm := Aside0.mk (small3 (x := x) (y := y) hl (by omega))
    go_wp2_with fail
    refine (Peek_some _ 0 1 0 (dom_small (by omega) (by omega) (by omega) (by omega)) x (steps3 x y).p3 hsm.out.1 ok _ _ hL8'.out).mono ?_
    rintro e w9 ⟨A2, c2, rfl, hR9, hb9⟩
    obtain ⟨g2, cap2, e2, hg2, hg2l⟩ := (Kd.own_of_R hR9).form (by omega)
    cases e2
    obtain ⟨hc9, hz9⟩ := Kd.R_cell (0 : Int) hR9 (k : Int) (by omega) (by omega)
    obtain ⟨r1, hr1⟩ : ∃ r1, rdOf 0 x (k : Int) = r1 := ⟨_, rfl⟩
    rw [hr1] at hc9
    rw [show ((k : Int)).toNat = k from by simp] at hc9 hz9
    have hb9' := Aside0.mk hb9
    have hs9 : w8.heap.size ≤ w9.heap.size := hb9.size
    clear hr1 hR9 hb9
    go_wp2_with fail
    have hb10 : Below w8.heap.size w8 (w9.setCell ⟨g2, k, none⟩ (.int .u8 ((r1 + 1) % 256))) := hb9'.out.setCell (by simpa using hg2) _
    have hs10 : (w9.setCell ⟨g2, k, none⟩ (.int .u8 ((r1 + 1) % 256))).heap.size = w9.heap.size := by simp
    have hL10 := hL8'.out.below hb10
    have hR10 := Kd.R_below hR8.out hb10
    have hB10 : Below w.heap.size w (w9.setCell ⟨g2, k, none⟩ (.int .u8 ((r1 + 1) % 256))) := hB8.out.trans (hb10.mono hB8.out.size)
    have T3 := steps3 x y
    refine (Take_some _ 0 1 0 (dom_small (by omega) (by omega) (by omega) (by omega)) x T3.p3 hsm.out.1 ok _ _ (fun k hk => hok4'.out k (by omega)) hL10).mono ?_
    rintro e w11 ⟨A3, c3, rfl, hR11, hL11, hf11⟩
    rw [T3.t3] at hL11
    have hS11 := Aside0.mk (R_fr hR10 hf11.fr (by simp [Kd.int, Kd.scalar]))
    have hs11 : w9.heap.size ≤ w11.heap.size := by have := hf11.size; omega
    have hB11 := Aside0.mk (hB10.trans ((hf11.mono hoku'.out).up hB10.size))
    have hR11' := Aside0.mk hR11
    have hL11' := Aside0.mk hL11
    clear hb10 hs10 hL10 hR10 hB10 hR11 hL11 hf11 T3 hc9 hz9
    go_wp2_with fail
    refine (Take_some _ 1 0 0 (dom_small (by omega) (by omega) (by omega) (by omega)) y (steps3 x y).p4 hsm.out.2 ok _ _ (fun k hk => hok4'.out k (by omega)) hL11'.out).mono ?_
    rintro e w12 ⟨A4, c4, rfl, hR12, hL12, hf12⟩
    rw [(steps3 x y).t4] at hL12
    have hS12 := R_fr hS11.out hf12.fr (by simp [Kd.int, Kd.scalar])
    have hY12 := R_fr hR11'.out hf12.fr (by simp [Kd.int, Kd.scalar])
    have hB12 := Aside0.mk (hB11.out.trans ((hf12.mono hoku'.out).up hB11.out.size))
    have k1 := Kd.C_string (c := c3) Try.underlying25 Try.underlying5 Try.underlying9 (C_of_R hY12).1
    have k2 := Kd.C_string (c := c4) Try.underlying25 Try.underlying5 Try.underlying9 (C_of_R hR12).1
    have k3 := Kd.C_string (c := cap) Try.underlying25 Try.underlying5 Try.underlying9 (C_of_R hS12).1
    have k4 := Kd.C_string (c := cp) Try.underlying25 Try.underlying5 Try.underlying9 (Kd.C_below hC'.out hB12.out)
    have hL12' := Aside0.mk hL12
    clear hL12 hf12 hS12 hY12 hR12
    have q1 : Aside0 (Calls Try.prog 22 #[.pointer (some ⟨w1.heap.size + 1, 0, none⟩), .int .i64 0, .int .i64 1] w12 fun e w' => e = .returned (.int .i64 0) ∧ w12 = w') := ⟨Count_calls _ 0 1 (dom_small (by omega) (by omega) (by omega) (by omega)) ok _ _ hL12'.out⟩
    have q2 : Aside0 (Calls Try.prog 22 #[.pointer (some ⟨w1.heap.size + 1, 0, none⟩), .int .i64 0, .int .i64 2] w12 fun e w' => e = .returned (.int .i64 1) ∧ w12 = w') := ⟨Count_calls _ 0 2 (dom_small (by omega) (by omega) (by omega) (by omega)) ok _ _ hL12'.out⟩
    have q3 : Aside0 (Calls Try.prog 23 #[.pointer (some ⟨w1.heap.size + 1, 0, none⟩)] w12 fun e w' => e = .returned (.int .i64 1) ∧ w12 = w') := ⟨Total_calls _ ok _ _ hL12'.out⟩
    rw [hyl]
    rw [hyl] at k2
    go_wp2_with (first
      | (go_at_call 22; (with_reducible refine q1.out.mono ?_); rintro e w13 ⟨rfl, rfl⟩)
      | (go_at_call 22; (with_reducible refine q2.out.mono ?_); rintro e w13 ⟨rfl, rfl⟩)
      | (go_at_call 23; (with_reducible refine q3.out.mono ?_); rintro e w13 ⟨rfl, rfl⟩)
      | fail)
    go_ret
    exact ⟨rfl, hB12.out⟩
  · have hd0 : (((x.length : Nat) : Int) == 0) = false := by simpa using hl0
    have hd : decide ((1000 : Int) < (x.length : Int)) = true := decide_eq_true (by omega)
    go_enter Try.func4, Try.ntmps4
    go_wp2_with fail
    refine (awake_calls _).mono ?_
    rintro e w1 ⟨rfl, hb1⟩
    have hb1' := Aside0.mk hb1
    have hs1 : w.heap.size ≤ w1.heap.size := hb1.size
    clear hb1
    go_wp2_with fail
    refine (awake_calls _).mono ?_
    rintro e w2 ⟨rfl, hb2⟩
    have hb2' : Aside0 (Below w.heap.size w w2) := ⟨hb1'.out.trans (hb2.mono hs1)⟩
    clear hb2
    go_wp2
    go_ret
    exact ⟨rfl, hb2'.out⟩
end Go.Proofs.Ytjghlomkimoeoaa.Lnk
