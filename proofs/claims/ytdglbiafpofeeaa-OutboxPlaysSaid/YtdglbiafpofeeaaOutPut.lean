/- Put, walked. -/
import Derived.Test.YtdglbiafpofeeaaOutAns
namespace Go.Proofs.Ytdglbiafpofeeaa.Obx
open Go.RowKit Go.Proofs.YtdglbiafpofeeaaW.PrintWords Go.Proofs.YtdglbiafpofeeaaW.PrintLast Go.Proofs.YtdglbiafpofeeaaW.PrintMore Go.Proofs.Ytdglbiafpofeeaa.POutboxNil
open Frm
set_option linter.unusedVariables false
set_option linter.unusedSimpArgs false
theorem keep7b {cur : World} {p b : Nat} {u : Value} {xk xi xu xa : Int} {xs : ByteArray} {xo : Bool} (hp : cur.cell? ⟨p, 0, none⟩ = some u) (h : cur.heap[b]? = some (.cells #[.int .i64 xk, .int .i64 xi, .int .i64 xu, .string xs, .int .i64 xa, .bool xo] 28 (0, 0))) :
    cur.cell? ⟨p, 0, none⟩ = some u ∧ cur.cell? ⟨b, 0, none⟩ = some (.int .i64 xk) ∧ cur.cell? ⟨b, 1, none⟩ = some (.int .i64 xi) ∧ cur.cell? ⟨b, 2, none⟩ = some (.int .i64 xu) ∧ cur.cell? ⟨b, 3, none⟩ = some (.string xs) ∧ cur.cell? ⟨b, 4, none⟩ = some (.int .i64 xa) ∧ cur.cell? ⟨b, 5, none⟩ = some (.bool xo) :=
  ⟨hp, (blk_cell h 0).trans rfl, (blk_cell h 1).trans rfl, (blk_cell h 2).trans rfl, (blk_cell h 3).trans rfl, (blk_cell h 4).trans rfl, (blk_cell h 5).trans rfl⟩
theorem keep7 {W cur : World} {p b : Nat} {u : Value} {xk xi xu xa : Int} {xs : ByteArray} {xo : Bool} (hp : W.cell? ⟨p, 0, none⟩ = some u) (h : W.heap[b]? = some (.cells #[.int .i64 xk, .int .i64 xi, .int .i64 xu, .string xs, .int .i64 xa, .bool xo] 28 (0, 0))) (hb : Below W.heap.size W cur) :
    cur.cell? ⟨p, 0, none⟩ = some u ∧ cur.cell? ⟨b, 0, none⟩ = some (.int .i64 xk) ∧ cur.cell? ⟨b, 1, none⟩ = some (.int .i64 xi) ∧ cur.cell? ⟨b, 2, none⟩ = some (.int .i64 xu) ∧ cur.cell? ⟨b, 3, none⟩ = some (.string xs) ∧ cur.cell? ⟨b, 4, none⟩ = some (.int .i64 xa) ∧ cur.cell? ⟨b, 5, none⟩ = some (.bool xo) :=
  keep7b (keepx hp hb) (blk_below h hb)
theorem b_row {w : World} {b e base : Nat} {cs : Array Value} {ok : Nat → Prop} {v : Value} {L : List Lt} (he : e ≠ 28) (h : w.heap[b]? = some (.cells cs 28 (0, 0))) (hr : Kd.R kLt e w base ok v L) (e1 : some b = v.ownBlock) : False := by
  obtain ⟨cells, hc⟩ := Kd.R_typed hr b e1.symm
  rw [h] at hc
  injection hc with hc
  injection hc with _ ht _
  exact he ht.symm
set_option maxHeartbeats 2000000 in
set_option maxRecDepth 100000 in
theorem Put_no (x : Lt) (hc : (formed x.kind x.inst x.turn x.name x.att x.ok && decide (x.kind ≤ 2) && decide (0 ≤ x.to)) = false) (p : Nat) (w : World) :
    Calls Try.prog 25 #[.pointer (some ⟨p, 0, none⟩), .int .i64 x.to, .agg #[.int .i64 x.kind, .int .i64 x.inst, .int .i64 x.turn, .string x.name, .int .i64 x.att, .bool x.ok]] w fun e w' => e = .returned (.int .i64 1) ∧ Below w.heap.size w w' := by
  have hf := Aside0.mk (fun w1 => Formed_calls x.kind x.inst x.turn x.name x.att x.ok w1)
  obtain ⟨xt, xk, xi, xu, xs, xa, xo⟩ := x
  simp only [] at hf hc ⊢
  obtain ⟨fb, hfb⟩ : ∃ fb, formed xk xi xu xs xa xo = fb := ⟨_, rfl⟩
  rw [hfb] at hf hc
  clear hfb
  cases fb with
  | false =>
    clear hc
    go_enter Try.func25, Try.ntmps25
    go_wp2_with fail
    refine (hf.out _).mono ?_
    rintro e w1 ⟨rfl, hb1⟩
    have hb1' := Aside0.mk (below_step (below_alloc (Below.refl w.heap.size w) _) hb1)
    clear hb1
    go_wp2
    go_ret
    exact ⟨rfl, hb1'.out⟩
  | true =>
    by_cases h2 : xk ≤ 2
    · have d2 : decide ((2 : Int) < xk) = false := decide_eq_false (by omega)
      have h3 : xt < 0 := by simpa [h2] using hc
      have d3 : decide (xt < 0) = true := decide_eq_true h3
      clear hc
      go_enter Try.func25, Try.ntmps25
      go_wp2_with fail
      refine (hf.out _).mono ?_
      rintro e w1 ⟨rfl, hb1⟩
      obtain ⟨hc1, hf1⟩ := bcell hb1
      have hs1 : w.heap.size < w1.heap.size := by have := hb1.size; simp at this; omega
      have hb1' := Aside0.mk (below_step (below_alloc (Below.refl w.heap.size w) _) hb1)
      clear hb1
      go_wp2
      go_ret
      exact ⟨rfl, hb1'.out⟩
    · have d2 : decide ((2 : Int) < xk) = true := decide_eq_true (by omega)
      clear hc
      go_enter Try.func25, Try.ntmps25
      go_wp2_with fail
      refine (hf.out _).mono ?_
      rintro e w1 ⟨rfl, hb1⟩
      obtain ⟨hc1, hf1⟩ := bcell hb1
      have hs1 : w.heap.size < w1.heap.size := by have := hb1.size; simp at this; omega
      have hb1' := Aside0.mk (below_step (below_alloc (Below.refl w.heap.size w) _) hb1)
      clear hb1
      go_wp2
      go_ret
      exact ⟨rfl, hb1'.out⟩
set_option maxHeartbeats 4000000 in
set_option maxRecDepth 100000 in
theorem Put_fit (L : List Lt) (hl : L.length ≤ 1000) (x : Lt) (hc : (formed x.kind x.inst x.turn x.name x.att x.ok && decide (x.kind ≤ 2) && decide (0 ≤ x.to)) = true) (ok : Nat → Prop) (p : Nat) (w : World) (hok : ∀ k, w.heap.size ≤ k → ok k) (h : IsO 74 59 ok w p L) :
    Calls Try.prog 25 #[.pointer (some ⟨p, 0, none⟩), .int .i64 x.to, .agg #[.int .i64 x.kind, .int .i64 x.inst, .int .i64 x.turn, .string x.name, .int .i64 x.att, .bool x.ok]] w fun e w' => e = .returned (.int .i64 (put L x).2) ∧ IsO 74 59 ok w' p (put L x).1 ∧ Fk [74, 59] ok w w' := by
  have hput : put L x = if L.any (twin x.kind x.inst x.turn) then (L, 6) else if 100 ≤ L.length then (L, 7) else (L ++ [x], 0) := by unfold put; rw [if_neg (by rw [hc]; decide)]
  have hf := Aside0.mk (fun w1 => Formed_calls x.kind x.inst x.turn x.name x.att x.ok w1)
  obtain ⟨v, h⟩ := h
  obtain ⟨A, cap, rfl, hcap, hC⟩ := h.form
  have hC' := Aside0.mk hC
  have hpl : p < w.heap.size := blk_lt h.blk
  have h' := Aside0.mk h
  have hok' := Aside0.mk hok
  obtain ⟨xt, xk, xi, xu, xs, xa, xo⟩ := x
  simp only [] at hf hc hput ⊢
  simp only [Bool.and_eq_true, decide_eq_true_eq] at hc
  obtain ⟨⟨hfb, h2⟩, h3⟩ := hc
  rw [hfb] at hf
  have d2 : decide ((2 : Int) < xk) = false := decide_eq_false (by omega)
  have d3 : decide (xt < 0) = false := decide_eq_false (by omega)
  obtain ⟨tb, htb⟩ : ∃ tb, L.any (twin xk xi xu) = tb := ⟨_, rfl⟩
  have htb' := Aside0.mk htb
  rw [htb] at hput
  obtain ⟨⟨L1, e1⟩, hr⟩ : ∃ r, put L ⟨xt, xk, xi, xu, xs, xa, xo⟩ = r := ⟨_, rfl⟩
  rw [hr] at hput ⊢
  have hput' := Aside0.mk hput
  clear hr hfb h2 h3 h hok hput htb hC
  go_enter Try.func25, Try.ntmps25
  go_wp2_with fail
  refine (hf.out _).mono ?_
  rintro e W ⟨rfl, hb1⟩
  obtain ⟨b, hb⟩ : ∃ b, w.heap.size = b := ⟨_, rfl⟩
  have hbW : W.heap[w.heap.size]? = some (.cells #[.int .i64 xk, .int .i64 xi, .int .i64 xu, .string xs, .int .i64 xa, .bool xo] 28 (0, 0)) := blk_below (blk_new _ _) hb1
  have hBW : Aside0 (Below w.heap.size w W) := ⟨below_step (below_alloc (Below.refl w.heap.size w) _) hb1⟩
  have hok1' : Aside0 (∀ k, W.heap.size ≤ k → ok k ∧ k ≠ p) := ⟨fun k hk => by have := blk_lt hbW; exact ⟨hok'.out k (by omega), by omega⟩⟩
  rw [hb] at hbW
  rw [hb]
  have hO' := Aside0.mk (h'.out.below hBW.out)
  have p1 := hO'.out.cell
  obtain ⟨c0, c1, c2, c3, c4, c5⟩ := msg_cells hbW
  have hpW : p < W.heap.size := blk_lt hO'.out.blk
  have hbWl : b < W.heap.size := blk_lt hbW
  have hct := Aside0.mk (Contains_calls (twin xk xi xu) (.pointer (some ⟨b, 0, none⟩)) L hl A cap W (Kd.C_below hC'.out hBW.out) (fun W2 hB x _ => twin_calls x xk xi xu xs xa xo b W2 (blk_below hbW hB)))
  rw [htb'.out] at hct
  have hbW' := Aside0.mk hbW
  clear hb1 hbW hf
  go_wp2_with fail
  refine hct.out.mono ?_
  rintro e W2 ⟨rfl, hb2⟩
  have hO2 := Aside0.mk (hO'.out.below hb2)
  have hbW2 := Aside0.mk (blk_below hbW'.out hb2)
  have hBW2 := Aside0.mk (below_step hBW.out hb2)
  have hs2 : W.heap.size ≤ W2.heap.size := hb2.size
  have hok2 : Aside0 (∀ k, W2.heap.size ≤ k → ok k ∧ k ≠ p) := ⟨fun k hk => hok1'.out k (by omega)⟩
  clear hb2 hct p1 c0 c1 c2 c3 c4 c5 hbW' hok1' hO'
  obtain ⟨W, hWe⟩ : ∃ W, W2 = W := ⟨_, rfl⟩
  rw [hWe] at hO2 hbW2 hBW2 hok2
  rw [hWe]
  have hO' := hO2
  have hbW' := hbW2
  have hok1' := hok2
  have p1 := hO'.out.cell
  obtain ⟨c0, c1, c2, c3, c4, c5⟩ := msg_cells hbW'.out
  have hpW : p < W.heap.size := blk_lt hO'.out.blk
  have hbWl : b < W.heap.size := blk_lt hbW'.out
  clear hWe hs2
  cases tb with
  | true =>
    have e := hput'.out
    rw [if_pos rfl] at e
    cases e
    go_wp2
    go_ret
    exact ⟨rfl, ⟨_, hO'.out⟩, Fk.of_below hBW2.out⟩
  | false =>
    by_cases h100 : 100 ≤ L.length
    · have d4 : decide ((100 : Int) ≤ (L.length : Int)) = true := decide_eq_true (by omega)
      have e := hput'.out
      rw [if_neg (by decide), if_pos h100] at e
      cases e
      clear h100
      go_wp2
      go_ret
      exact ⟨rfl, ⟨_, hO'.out⟩, Fk.of_below hBW2.out⟩
    · have d4 : decide ((100 : Int) ≤ (L.length : Int)) = false := decide_eq_false (by omega)
      have e := hput'.out
      rw [if_neg (by decide), if_neg h100] at e
      cases e
      clear h100
      go_upto_region 7 with fail
      go_cut [] (fun wx => Aside0 (IsO 74 59 ok wx p (L ++ [⟨xt, xk, xi, xu, xs, xa, xo⟩])) ∧ Aside0 (Fk [74, 59] ok W wx))
      case first =>
        refine start_ (n := 13) (S := fun w' => w'.cell? ⟨p, 0, none⟩ = some (.slice A L.length cap) ∧ w'.cell? ⟨b, 0, none⟩ = some (.int .i64 xk) ∧ w'.cell? ⟨b, 1, none⟩ = some (.int .i64 xi) ∧ w'.cell? ⟨b, 2, none⟩ = some (.int .i64 xu) ∧ w'.cell? ⟨b, 3, none⟩ = some (.string xs) ∧ w'.cell? ⟨b, 4, none⟩ = some (.int .i64 xa) ∧ w'.cell? ⟨b, 5, none⟩ = some (.bool xo)) (ds := [12]) #[false, false, false, false, false, false, false, false, false, false, false, false, false] (by kernel_rfl) rfl rfl (keep7 p1 hbW'.out (below_drew (Below.refl _ _))) (fun hHeld => ?_)
        refine pure_ (i := 0) (N := (some 38)) (v := ?_) (a' := ?_) #[true, false, false, false, false, false, false, false, false, false, false, false, false] rfl rfl (by kernel_rfl) (fun _ _ _ h => h) (Or.inl ⟨by rfl, ?_⟩) ?_ ?_
        rotate_left
        · intro w'
          go_simp
          with_reducible rfl
        rotate_left
        · simp only [Act.put, List.setIfInBounds_toArray, List.set_cons_zero, List.set_cons_succ, i64_w, i32_w]
          rfl
        refine pure_ (i := 1) (N := (some 39)) (v := ?_) (a' := ?_) #[true, true, false, false, false, false, false, false, false, false, false, false, false] rfl rfl (by kernel_rfl) (fun _ _ _ h => h) (Or.inl ⟨by rfl, ?_⟩) ?_ ?_
        rotate_left
        · intro w'
          go_simp
          with_reducible rfl
        rotate_left
        · simp only [Act.put, List.setIfInBounds_toArray, List.set_cons_zero, List.set_cons_succ, i64_w, i32_w]
          rfl
        refine pure_ (i := 2) (N := (some 40)) (v := ?_) (a' := ?_) #[true, true, true, false, false, false, false, false, false, false, false, false, false] rfl rfl (by kernel_rfl) (fun _ _ _ h => h) (Or.inl ⟨by rfl, ?_⟩) ?_ ?_
        rotate_left
        · intro w'
          go_simp
          with_reducible rfl
        rotate_left
        · simp only [Act.put, List.setIfInBounds_toArray, List.set_cons_zero, List.set_cons_succ, i64_w, i32_w]
          rfl
        refine pure_ (i := 3) (N := (some 41)) (v := ?_) (a' := ?_) #[true, true, true, true, false, false, false, false, false, false, false, false, false] rfl rfl (by kernel_rfl) (fun _ _ _ h => h) (Or.inl ⟨by rfl, ?_⟩) ?_ ?_
        rotate_left
        · intro w'
          go_simp
          with_reducible rfl
        rotate_left
        · simp only [Act.put, List.setIfInBounds_toArray, List.set_cons_zero, List.set_cons_succ, i64_w, i32_w]
          rfl
        refine take_ (i := 4) (N := (some 42)) (v := ?_) (a' := ?_) #[true, true, true, true, true, false, false, false, false, false, false, false, false] rfl rfl (by kernel_rfl) (fun _ _ _ h => h) (Or.inl ⟨by rfl, ?_⟩) hHeld ?_ ?_
        rotate_left
        · rintro w' ⟨s0, s1, s2, s3, s4, s5, s6⟩
          go_simp
          with_reducible rfl
        rotate_left
        · simp only [Act.put, List.setIfInBounds_toArray, List.set_cons_zero, List.set_cons_succ, i64_w, i32_w]
          rfl
        refine pure_ (i := 5) (N := (some 43)) (v := ?_) (a' := ?_) #[true, true, true, true, true, true, false, false, false, false, false, false, false] rfl rfl (by kernel_rfl) (fun _ _ _ h => h) (Or.inl ⟨by rfl, ?_⟩) ?_ ?_
        rotate_left
        · intro w'
          go_simp
          with_reducible rfl
        rotate_left
        · simp only [Act.put, List.setIfInBounds_toArray, List.set_cons_zero, List.set_cons_succ, i64_w, i32_w]
          rfl
        refine take_ (i := 6) (N := (some 44)) (v := ?_) (a' := ?_) #[true, true, true, true, true, true, true, false, false, false, false, false, false] rfl rfl (by kernel_rfl) (fun _ _ _ h => h) (Or.inl ⟨by rfl, ?_⟩) hHeld ?_ ?_
        rotate_left
        · rintro w' ⟨s0, s1, s2, s3, s4, s5, s6⟩
          go_simp
          with_reducible rfl
        rotate_left
        · simp only [Act.put, List.setIfInBounds_toArray, List.set_cons_zero, List.set_cons_succ, i64_w, i32_w]
          rfl
        refine pure_ (i := 7) (N := (some 45)) (v := ?_) (a' := ?_) #[true, true, true, true, true, true, true, true, false, false, false, false, false] rfl rfl (by kernel_rfl) (fun _ _ _ h => h) (Or.inl ⟨by rfl, ?_⟩) ?_ ?_
        rotate_left
        · intro w'
          go_simp
          with_reducible rfl
        rotate_left
        · simp only [Act.put, List.setIfInBounds_toArray, List.set_cons_zero, List.set_cons_succ, i64_w, i32_w]
          rfl
        refine one_ (i := 8) (N := (some 46)) #[true, true, true, true, true, true, true, true, true, false, false, false, false] rfl rfl (by kernel_rfl) (by decide) (fun K hK => ?_)
        go_simp
        refine hK.out _ _ (keep7 p1 hbW'.out (by repeat (first | (with_reducible exact Below.refl _ _) | (with_reducible exact hB3.out) | (with_reducible exact hB4.out) | (with_reducible exact hF3) | (with_reducible refine below_drew ?_) | (with_reducible refine below_alloc ?_ _)))) (fun hHeld => ?_)
        clear hK K
        refine one_ (i := 9) (N := (some 47)) #[true, true, true, true, true, true, true, true, true, true, false, false, false] rfl rfl (by kernel_rfl) (by decide) (fun K hK => ?_)
        refine Kd.R_append_rows_step kLt (w0 := W) 0 (by rfl) (.tmp 42) (.tmp 46) 65 59 _ 64 (by rfl) Try.underlying65 infoLt59 rfl (by decide) (by decide) (.slice A L.length cap) L [⟨xt, xk, xi, xu, xs, xa, xo⟩] (some ⟨W.heap.size, 0, none⟩) 1 1 (fun k => ok k ∧ k ≠ p) (fun _ => False) (by rfl) (by rfl) (Kd.R_below hO'.out.row (by repeat (first | (with_reducible exact Below.refl _ _) | (with_reducible exact hB3.out) | (with_reducible exact hB4.out) | (with_reducible exact hF3) | (with_reducible refine below_drew ?_) | (with_reducible refine below_alloc ?_ _)))) (C_one ⟨xt, xk, xi, xu, xs, xa, xo⟩ (by repeat (first | (with_reducible exact blk_new_at (by simp)) | (with_reducible refine blk_grown ?_ hg3 (by simp [Value.ownBlock])) | (with_reducible refine blk_alloc ?_ _) | (with_reducible refine blk_drew ?_)))) (fun x cs hx => by rw [kLt_open hx]; exact kLt_mk _ _ _ x) (fun _ hk => hk.elim) (fun k hk => hok1'.out k (by simp at hk; omega)) (below0 (by repeat (first | (with_reducible exact Below.refl _ _) | (with_reducible exact hB3.out) | (with_reducible exact hB4.out) | (with_reducible exact hF3) | (with_reducible refine below_drew ?_) | (with_reducible refine below_alloc ?_ _)))) (Nat.zero_le _) (by omega) ?_
        intro v5 w5 hR5 _ hg5 _
        obtain ⟨A5, c5, e5⟩ := Kd.R_slice hR5
        rw [List.length_append, List.length_singleton] at e5
        subst e5
        have hgW := (grown_of_below (show Below W.heap.size W _ from (by repeat (first | (with_reducible exact Below.refl _ _) | (with_reducible exact hB3.out) | (with_reducible exact hB4.out) | (with_reducible exact hF3) | (with_reducible refine below_drew ?_) | (with_reducible refine below_alloc ?_ _)))) (Value.slice A L.length cap).ownBlock).trans hg5
        have hp5 := blk_grown hO'.out.blk hgW (fun e => (hO'.out.row.1 p e.symm).2 rfl)
        have p5 : w5.cell? ⟨p, 0, none⟩ = some (.slice A L.length cap) := (blk_cell hp5 0).trans rfl
        have b5 := blk_grown hbW'.out hgW (fun e => b_row (by decide) hbW'.out hO'.out.row e)
        have f5 : w5.frozen? ⟨p, 0, none⟩ = false := blk_frozen hp5 0
        have hfin := Aside0.mk (hO'.out.store hp5 hR5)
        have hfk := Aside0.mk (((Fk.refl [74, 59] ok W).row (v := .slice A L.length cap) hO'.out.row (by simp) (fun k hk => hk.1) hgW).set hp5 (by simp) hO'.out.pk 0 (.slice A5 (L.length + 1) c5))
        clear hR5 hg5 hgW
        refine hK.out _ _ (keep7b p5 b5) (fun hHeld => ?_)
        clear hK K
        refine pure_ (i := 10) (N := (some 48)) (v := ?_) (a' := ?_) #[true, true, true, true, true, true, true, true, true, true, true, false, false] rfl rfl (by kernel_rfl) (fun _ _ _ h => h) (Or.inl ⟨by rfl, ?_⟩) ?_ ?_
        rotate_left
        · intro w'
          go_simp
          with_reducible rfl
        rotate_left
        · simp only [Act.put, List.setIfInBounds_toArray, List.set_cons_zero, List.set_cons_succ, i64_w, i32_w]
          rfl
        refine pure_ (i := 11) (N := (some 49)) (v := ?_) (a' := ?_) #[true, true, true, true, true, true, true, true, true, true, true, true, false] rfl rfl (by kernel_rfl) (fun _ _ _ h => h) (Or.inl ⟨by rfl, ?_⟩) ?_ ?_
        rotate_left
        · intro w'
          go_simp
          with_reducible rfl
        rotate_left
        · simp only [Act.put, List.setIfInBounds_toArray, List.set_cons_zero, List.set_cons_succ, i64_w, i32_w]
          rfl
        refine last_ (i := 12) (N := none) #[true, true, true, true, true, true, true, true, true, true, true, true, true] rfl rfl (by kernel_rfl) (by decide) (fun K hK => ?_)
        obtain ⟨s0, -⟩ := hHeld
        go_simp
        refine hK.out _ _ ?_
        clear hK K
        refine done_ (by kernel_rfl) ?_
        go_wp2_with fail
        go_meet
        exact ⟨⟨⟨_, hfin.out⟩⟩, ⟨hfk.out⟩⟩
      case rest =>
        obtain ⟨h5, h6⟩ := hcut
        go_wp2_with fail
        go_ret
        exact ⟨rfl, h5.out, (Fk.of_below hBW2.out).trans h6.out⟩
end Go.Proofs.Ytdglbiafpofeeaa.Obx
