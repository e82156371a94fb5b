/- The document's Put, walked. -/
import Derived.Test.YtdglbiafpofeeaaOutPut
namespace Go.Proofs.Ytdglbiafpofeeaa.Obx
open Go.RowKit Go.Proofs.YtdglbiafpofeeaaW.PrintWords Go.Proofs.YtdglbiafpofeeaaW.PrintLast Go.Proofs.YtdglbiafpofeeaaW.PrintMore Go.Proofs.Ytdglbiafpofeeaa.POutboxNil
open Frm
set_option linter.unusedVariables false
set_option linter.unusedSimpArgs false
set_option maxHeartbeats 2000000 in
set_option maxRecDepth 100000 in
theorem rPut_no (x : Lt) (hc : (formed x.kind x.inst x.turn x.name x.att x.ok && decide (x.kind ≤ 2) && decide (0 ≤ x.to)) = false) (p : Nat) (w : World) :
    Calls Try.prog 29 #[.pointer (some ⟨p, 0, none⟩), .int .i64 x.to, .agg #[.int .i64 x.kind, .int .i64 x.inst, .int .i64 x.turn, .string x.name, .int .i64 x.att, .bool x.ok]] w fun e w' => e = .returned (.int .i64 1) ∧ Below w.heap.size w w' := by
  have hf := Aside0.mk (fun w1 => rFormed_calls x.kind x.inst x.turn x.name x.att x.ok w1)
  obtain ⟨xt, xk, xi, xu, xs, xa, xo⟩ := x
  simp only [] at hf hc ⊢
  obtain ⟨fb, hfb⟩ : ∃ fb, formed xk xi xu xs xa xo = fb := ⟨_, rfl⟩
  rw [hfb] at hf hc
  clear hfb
  cases fb with
  | false =>
    clear hc
    go_enter Try.func29, Try.ntmps29
    go_wp2_with fail
    refine (hf.out _).mono ?_
    rintro e w1 ⟨rfl, hb1⟩
    have hb1' := Aside0.mk (below_step (below_alloc (Below.refl w.heap.size w) _) hb1)
    clear hb1
    go_wp2
    go_ret
    exact ⟨rfl, hb1'.out⟩
  | true =>
    by_cases h2 : xk ≤ 2
    · have d2 : decide ((2 : Int) < xk) = false := decide_eq_false (by omega)
      have h3 : xt < 0 := by simpa [h2] using hc
      have d3 : decide (xt < 0) = true := decide_eq_true h3
      clear hc
      go_enter Try.func29, Try.ntmps29
      go_wp2_with fail
      refine (hf.out _).mono ?_
      rintro e w1 ⟨rfl, hb1⟩
      obtain ⟨hc1, hf1⟩ := bcell hb1
      have hs1 : w.heap.size < w1.heap.size := by have := hb1.size; simp at this; omega
      have hb1' := Aside0.mk (below_step (below_alloc (Below.refl w.heap.size w) _) hb1)
      clear hb1
      go_wp2
      go_ret
      exact ⟨rfl, hb1'.out⟩
    · have d2 : decide ((2 : Int) < xk) = true := decide_eq_true (by omega)
      clear hc
      go_enter Try.func29, Try.ntmps29
      go_wp2_with fail
      refine (hf.out _).mono ?_
      rintro e w1 ⟨rfl, hb1⟩
      obtain ⟨hc1, hf1⟩ := bcell hb1
      have hs1 : w.heap.size < w1.heap.size := by have := hb1.size; simp at this; omega
      have hb1' := Aside0.mk (below_step (below_alloc (Below.refl w.heap.size w) _) hb1)
      clear hb1
      go_wp2
      go_ret
      exact ⟨rfl, hb1'.out⟩
set_option maxHeartbeats 4000000 in
set_option maxRecDepth 100000 in
theorem rPut_fit (L : List Lt) (hl : L.length ≤ 1000) (x : Lt) (hc : (formed x.kind x.inst x.turn x.name x.att x.ok && decide (x.kind ≤ 2) && decide (0 ≤ x.to)) = true) (ok : Nat → Prop) (p : Nat) (w : World) (hok : ∀ k, w.heap.size ≤ k → ok k) (h : IsO 72 75 ok w p L) :
    Calls Try.prog 29 #[.pointer (some ⟨p, 0, none⟩), .int .i64 x.to, .agg #[.int .i64 x.kind, .int .i64 x.inst, .int .i64 x.turn, .string x.name, .int .i64 x.att, .bool x.ok]] w fun e w' => e = .returned (.int .i64 (put L x).2) ∧ IsO 72 75 ok w' p (put L x).1 ∧ Fk [72, 75] ok w w' := by
  have hput : put L x = if L.any (twin x.kind x.inst x.turn) then (L, 6) else if 100 ≤ L.length then (L, 7) else (L ++ [x], 0) := by unfold put; rw [if_neg (by rw [hc]; decide)]
  have hf := Aside0.mk (fun w1 => rFormed_calls x.kind x.inst x.turn x.name x.att x.ok w1)
  obtain ⟨v, h⟩ := h
  obtain ⟨A, cap, rfl, hcap, hC⟩ := h.form
  have hC' := Aside0.mk hC
  have hpl : p < w.heap.size := blk_lt h.blk
  have h' := Aside0.mk h
  have hok' := Aside0.mk hok
  obtain ⟨xt, xk, xi, xu, xs, xa, xo⟩ := x
  simp only [] at hf hc hput ⊢
  simp only [Bool.and_eq_true, decide_eq_true_eq] at hc
  obtain ⟨⟨hfb, h2⟩, h3⟩ := hc
  rw [hfb] at hf
  have d2 : decide ((2 : Int) < xk) = false := decide_eq_false (by omega)
  have d3 : decide (xt < 0) = false := decide_eq_false (by omega)
  obtain ⟨tb, htb⟩ : ∃ tb, L.any (twin xk xi xu) = tb := ⟨_, rfl⟩
  have htb' := Aside0.mk htb
  rw [htb] at hput
  obtain ⟨⟨L1, e1⟩, hr⟩ : ∃ r, put L ⟨xt, xk, xi, xu, xs, xa, xo⟩ = r := ⟨_, rfl⟩
  rw [hr] at hput ⊢
  have hput' := Aside0.mk hput
  clear hr hfb h2 h3 h hok hput htb hC
  go_enter Try.func29, Try.ntmps29
  go_wp2_with fail
  refine (hf.out _).mono ?_
  rintro e W ⟨rfl, hb1⟩
  obtain ⟨b, hb⟩ : ∃ b, w.heap.size = b := ⟨_, rfl⟩
  have hbW : W.heap[w.heap.size]? = some (.cells #[.int .i64 xk, .int .i64 xi, .int .i64 xu, .string xs, .int .i64 xa, .bool xo] 28 (0, 0)) := blk_below (blk_new _ _) hb1
  have hBW : Aside0 (Below w.heap.size w W) := ⟨below_step (below_alloc (Below.refl w.heap.size w) _) hb1⟩
  have hok1' : Aside0 (∀ k, W.heap.size ≤ k → ok k ∧ k ≠ p) := ⟨fun k hk => by have := blk_lt hbW; exact ⟨hok'.out k (by omega), by omega⟩⟩
  rw [hb] at hbW
  rw [hb]
  have hO' := Aside0.mk (h'.out.below hBW.out)
  have p1 := hO'.out.cell
  obtain ⟨c0, c1, c2, c3, c4, c5⟩ := msg_cells hbW
  have hpW : p < W.heap.size := blk_lt hO'.out.blk
  have hbWl : b < W.heap.size := blk_lt hbW
  have hbW' := Aside0.mk hbW
  have hO0 := hO'
  clear hb1 hbW hf p1 c0 c1 c2 c3 c4 c5
  obtain ⟨W0, hW0⟩ : ∃ W0, W = W0 := ⟨_, rfl⟩
  have c0 := (msg_cells hbW'.out).1
  have p1 := hO'.out.cell
  have cz := msg_cells hbW'.out
  obtain ⟨-, c1, c2, c3, c4, c5⟩ := cz
  clear hW0
  go_wp2_with fail
  go_loopg [26] (L.length + 1) (fun kq v26 w' => ∃ (i : Nat), v26 = .int .i64 (i : Int) ∧ Aside0 (kq + i = L.length + 1) ∧ Aside0 (i ≤ L.length) ∧ Aside0 ((L.drop i).any (twin xk xi xu) = tb) ∧ Aside0 (Below W.heap.size W w'))
  case atStart => exact ⟨0, rfl, ⟨by omega⟩, ⟨by omega⟩, ⟨htb'.out⟩, ⟨Below.refl _ _⟩⟩
  case round =>
    clear c0 c1 c2 c3 c4 c5 p1
    obtain ⟨i, rfl, hk, hi, hany, hB⟩ := hrel
    have hOr := Aside0.mk (hO'.out.below hB.out)
    have hbr := Aside0.mk (blk_below hbW'.out hB.out)
    have hsr : W.heap.size ≤ wr.heap.size := hB.out.size
    have pr := hOr.out.cell
    have hpr : p < wr.heap.size := by omega
    have hbrl : b < wr.heap.size := by omega
    by_cases hlt : i < L.length
    · have hd : decide ((i : Int) < (L.length : Int)) = true := decide_eq_true (by omega)
      have hd' : decide (i < L.length) = true := decide_eq_true hlt
      cases gk with
      | zero => exact absurd hk.out (by omega)
      | succ k1 =>
        have hlt' := Aside0.mk hlt
        obtain ⟨x, hq⟩ : ∃ x, L[i]? = some x := ⟨_, List.getElem?_eq_getElem hlt⟩
        obtain ⟨g, cap', eA, _, hgl, _⟩ := Kd.R_form hOr.out.row (by omega)
        cases eA
        obtain ⟨y0, y1, y2, y3, y4, y5, y6⟩ := el7 hOr.out.row hq
        have hst : (L.drop i).any (twin xk xi xu) = (twin xk xi xu x || (L.drop (i + 1)).any (twin xk xi xu)) := by
          rw [List.drop_eq_getElem_cons hlt, List.any_cons]
          rw [List.getElem?_eq_getElem hlt] at hq
          rw [Option.some.inj hq]
        rw [hany.out] at hst
        obtain ⟨qt, qk, qi, qu, qs, qa, qo⟩ := x
        simp only [twin] at y0 y1 y2 y3 y4 y5 y6 hst
        obtain ⟨m0, m1, m2, m3, m4, m5⟩ := msg_cells hbr.out
        clear hq
        by_cases e1 : qk = xk
        · subst e1
          by_cases e2 : qi = xi
          · subst e2
            by_cases e3 : qu = xu
            · subst e3
              have htr : tb = true := by rw [hst]; simp
              subst htr
              have e := hput'.out
              rw [if_pos rfl] at e
              cases e
              clear hst
              go_wp2
              go_ret
              exact ⟨rfl, ⟨_, hOr.out.below (below_alloc (Below.refl _ _) _)⟩, Fk.of_below (below_step hBW.out (below_alloc hB.out _))⟩
            · have e3' : (qu == xu) = false := by simpa using e3
              have hst' : Aside0 ((L.drop (i + 1)).any (twin qk qi xu) = tb) := ⟨by rw [hst, e3']; simp⟩
              clear hst
              go_wp2
              go_roundg k1
              case measure => have := hk.out; omega
              case rel => exact ⟨i + 1, by go_num, ⟨by have := hk.out; omega⟩, ⟨by have := hlt'.out; omega⟩, hst', ⟨below_alloc hB.out _⟩⟩
          · have e2' : (qi == xi) = false := by simpa using e2
            have hst' : Aside0 ((L.drop (i + 1)).any (twin qk xi xu) = tb) := ⟨by rw [hst, e2']; simp⟩
            clear hst
            go_wp2
            go_roundg k1
            case measure => have := hk.out; omega
            case rel => exact ⟨i + 1, by go_num, ⟨by have := hk.out; omega⟩, ⟨by have := hlt'.out; omega⟩, hst', ⟨below_alloc hB.out _⟩⟩
        · have e1' : (qk == xk) = false := by simpa using e1
          have hst' : Aside0 ((L.drop (i + 1)).any (twin xk xi xu) = tb) := ⟨by rw [hst, e1']; simp⟩
          clear hst
          go_wp2
          go_roundg k1
          case measure => have := hk.out; omega
          case rel => exact ⟨i + 1, by go_num, ⟨by have := hk.out; omega⟩, ⟨by have := hlt'.out; omega⟩, hst', ⟨below_alloc hB.out _⟩⟩
    · have hd : decide ((i : Int) < (L.length : Int)) = false := decide_eq_false (by omega)
      have hd' : decide (i < L.length) = false := decide_eq_false hlt
      have htf : tb = false := by rw [← hany.out, List.drop_eq_nil_of_le (by omega)]; rfl
      subst htf
      clear hO' hbW' hO0
      have hBW2 := Aside0.mk (below_step hBW.out hB.out)
      have hok2 : Aside0 (∀ k, wr.heap.size ≤ k → ok k ∧ k ≠ p) := ⟨fun k hk => hok1'.out k (by omega)⟩
      have hCW := Aside0.mk (Kd.C_below hC'.out hBW2.out)
      clear hok1'
      obtain ⟨W1, hW1⟩ : ∃ W1, wr = W1 := ⟨_, rfl⟩
      rw [hW1] at hOr hbr hBW2 hok2 hCW pr hpr hbrl
      rw [hW1]
      have hO' := hOr
      have hbW' := hbr
      have hok1' := hok2
      have p1 := pr
      have hCW' := hCW
      obtain ⟨c0, c1, c2, c3, c4, c5⟩ := msg_cells hbW'.out
      clear hW1 hOr hbr hok2 pr hCW hsr
      obtain ⟨W, hWW⟩ : ∃ W, W1 = W := ⟨_, rfl⟩
      rw [hWW] at hO' hbW' hok1' p1 hCW' c0 c1 c2 c3 c4 c5 hBW2 hpr hbrl
      rw [hWW]
      clear hWW
      by_cases h100 : 100 ≤ L.length
      · have d4 : decide ((100 : Int) ≤ (L.length : Int)) = true := decide_eq_true (by omega)
        have e := hput'.out
        rw [if_neg (by decide), if_pos h100] at e
        cases e
        clear h100
        go_wp2
        go_ret
        exact ⟨rfl, ⟨_, hO'.out⟩, Fk.of_below hBW2.out⟩
      · have d4 : decide ((100 : Int) ≤ (L.length : Int)) = false := decide_eq_false (by omega)
        have e := hput'.out
        rw [if_neg (by decide), if_neg h100] at e
        cases e
        clear h100
        go_upto_region 12 with fail
        go_cut [] (fun wx => Aside0 (IsO 72 75 ok wx p (L ++ [⟨xt, xk, xi, xu, xs, xa, xo⟩])) ∧ Aside0 (Fk [72, 75] ok W wx))
        case first =>
          refine start_ (n := 15) (S := fun w' => w'.cell? ⟨p, 0, none⟩ = some (.slice A L.length cap) ∧ w'.cell? ⟨b, 0, none⟩ = some (.int .i64 xk) ∧ w'.cell? ⟨b, 1, none⟩ = some (.int .i64 xi) ∧ w'.cell? ⟨b, 2, none⟩ = some (.int .i64 xu) ∧ w'.cell? ⟨b, 3, none⟩ = some (.string xs) ∧ w'.cell? ⟨b, 4, none⟩ = some (.int .i64 xa) ∧ w'.cell? ⟨b, 5, none⟩ = some (.bool xo)) (ds := [14]) #[false, false, false, false, false, false, false, false, false, false, false, false, false, false, false] (by kernel_rfl) rfl rfl (keep7 p1 hbW'.out (below_drew (Below.refl _ _))) (fun hHeld => ?_)
          refine pure_ (i := 0) (N := (some 63)) (v := ?_) (a' := ?_) #[true, false, false, false, false, false, false, false, false, false, false, false, false, false, false] rfl rfl (by kernel_rfl) (fun _ _ _ h => h) (Or.inl ⟨by rfl, ?_⟩) ?_ ?_
          rotate_left
          · intro w'
            go_simp
            with_reducible rfl
          rotate_left
          · simp only [Act.put, List.setIfInBounds_toArray, List.set_cons_zero, List.set_cons_succ, i64_w, i32_w]
            rfl
          refine pure_ (i := 2) (N := (some 65)) (v := ?_) (a' := ?_) #[true, false, true, false, false, false, false, false, false, false, false, false, false, false, false] rfl rfl (by kernel_rfl) (fun _ _ _ h => h) (Or.inl ⟨by rfl, ?_⟩) ?_ ?_
          rotate_left
          · intro w'
            go_simp
            with_reducible rfl
          rotate_left
          · simp only [Act.put, List.setIfInBounds_toArray, List.set_cons_zero, List.set_cons_succ, i64_w, i32_w]
            rfl
          refine pure_ (i := 3) (N := (some 66)) (v := ?_) (a' := ?_) #[true, false, true, true, false, false, false, false, false, false, false, false, false, false, false] rfl rfl (by kernel_rfl) (fun _ _ _ h => h) (Or.inl ⟨by rfl, ?_⟩) ?_ ?_
          rotate_left
          · intro w'
            go_simp
            with_reducible rfl
          rotate_left
          · simp only [Act.put, List.setIfInBounds_toArray, List.set_cons_zero, List.set_cons_succ, i64_w, i32_w]
            rfl
          refine pure_ (i := 4) (N := (some 67)) (v := ?_) (a' := ?_) #[true, false, true, true, true, false, false, false, false, false, false, false, false, false, false] rfl rfl (by kernel_rfl) (fun _ _ _ h => h) (Or.inl ⟨by rfl, ?_⟩) ?_ ?_
          rotate_left
          · intro w'
            go_simp
            with_reducible rfl
          rotate_left
          · simp only [Act.put, List.setIfInBounds_toArray, List.set_cons_zero, List.set_cons_succ, i64_w, i32_w]
            rfl
          refine take_ (i := 5) (N := (some 68)) (v := ?_) (a' := ?_) #[true, false, true, true, true, true, false, false, false, false, false, false, false, false, false] rfl rfl (by kernel_rfl) (fun _ _ _ h => h) (Or.inl ⟨by rfl, ?_⟩) hHeld ?_ ?_
          rotate_left
          · rintro w' ⟨s0, s1, s2, s3, s4, s5, s6⟩
            go_simp
            with_reducible rfl
          rotate_left
          · simp only [Act.put, List.setIfInBounds_toArray, List.set_cons_zero, List.set_cons_succ, i64_w, i32_w]
            rfl
          refine pure_ (i := 7) (N := (some 70)) (v := ?_) (a' := ?_) #[true, false, true, true, true, true, false, true, false, false, false, false, false, false, false] rfl rfl (by kernel_rfl) (fun _ _ _ h => h) (Or.inl ⟨by rfl, ?_⟩) ?_ ?_
          rotate_left
          · intro w'
            go_simp
            with_reducible rfl
          rotate_left
          · simp only [Act.put, List.setIfInBounds_toArray, List.set_cons_zero, List.set_cons_succ, i64_w, i32_w]
            rfl
          refine take_ (i := 8) (N := (some 71)) (v := ?_) (a' := ?_) #[true, false, true, true, true, true, false, true, true, false, false, false, false, false, false] rfl rfl (by kernel_rfl) (fun _ _ _ h => h) (Or.inl ⟨by rfl, ?_⟩) hHeld ?_ ?_
          rotate_left
          · rintro w' ⟨s0, s1, s2, s3, s4, s5, s6⟩
            go_simp
            with_reducible rfl
          rotate_left
          · simp only [Act.put, List.setIfInBounds_toArray, List.set_cons_zero, List.set_cons_succ, i64_w, i32_w]
            rfl
          refine pure_ (i := 9) (N := (some 72)) (v := ?_) (a' := ?_) #[true, false, true, true, true, true, false, true, true, true, false, false, false, false, false] rfl rfl (by kernel_rfl) (fun _ _ _ h => h) (Or.inl ⟨by rfl, ?_⟩) ?_ ?_
          rotate_left
          · intro w'
            go_simp
            with_reducible rfl
          rotate_left
          · simp only [Act.put, List.setIfInBounds_toArray, List.set_cons_zero, List.set_cons_succ, i64_w, i32_w]
            rfl
          refine join_ (σ := Nat × Value × Nat) 4 #[true, true, true, true, true, true, true, true, true, true, true, false, false, false, false] (fun s => [(64, .slice (some ⟨s.1, 0, none⟩) 0 0), (69, s.2.1), (73, .slice (some ⟨s.2.2, 0, none⟩) 1 1)]) (fun s w' => Kd.R kLt 75 w' 0 (fun k => ok k ∧ k ≠ p) s.2.1 L ∧ Kd.C kLt w' (some ⟨s.2.2, 0, none⟩) 1 [⟨xt, xk, xi, xu, xs, xa, xo⟩] ∧ Below W.heap.size W w' ∧ (∀ k, s.2.1.ownBlock = some k → W.heap.size ≤ k)) ?_ ?_
          · intro s w' hF
            refine norm_ (a' := ?_) ?_ ?_
            rotate_left
            · simp only [putAll, Act.put, List.setIfInBounds_toArray, List.set_cons_zero, List.set_cons_succ, i64_w, i32_w]
              rfl
            obtain ⟨hF1, hF2, hF3, hF4⟩ := hF
            have hHeld := keep7 p1 hbW'.out hF3
            have hsw := hF3.size
            refine one_ (i := 11) (N := (some 74)) #[true, true, true, true, true, true, true, true, true, true, true, true, false, false, false] rfl rfl (by kernel_rfl) (by decide) (fun K hK => ?_)
            refine Kd.R_append_rows_step kLt (w0 := w') 0 (by rfl) (.tmp 69) (.tmp 73) 70 75 _ 64 (by rfl) Try.underlying70 infoLt75 rfl (by decide) (by decide) s.2.1 L [⟨xt, xk, xi, xu, xs, xa, xo⟩] (some ⟨s.2.2, 0, none⟩) 1 1 (fun k => ok k ∧ k ≠ p) (fun _ => False) (by rfl) (by rfl) hF1 hF2 (fun x cs hx => by rw [kLt_open hx]; exact kLt_mk _ _ _ x) (fun _ hk => hk.elim) (fun k hk => hok1'.out k (by omega)) (Below.refl _ _) (Nat.zero_le _) (by omega) ?_
            intro v5 w5 hR5 _ hg5 _
            obtain ⟨A5, c5, e5⟩ := Kd.R_slice hR5
            rw [List.length_append, List.length_singleton] at e5
            subst e5
            have hB4 : Aside0 (Below W.heap.size W w5) := ⟨pw_below_grown hF3 _ (by omega) hg5 (fun k e => hF4 k e)⟩
            have hp5 := blk_below hO'.out.blk hB4.out
            have p5 : w5.cell? ⟨p, 0, none⟩ = some (.slice A L.length cap) := (blk_cell hp5 0).trans rfl
            have f5 : w5.frozen? ⟨p, 0, none⟩ = false := blk_frozen hp5 0
            have hfin := Aside0.mk (hO'.out.store hp5 hR5)
            have hfk := Aside0.mk ((Fk.of_below (T := [72, 75]) (ok := ok) hB4.out).set hp5 (by simp) hO'.out.pk 0 (.slice A5 (L.length + 1) c5))
            clear hR5 hg5
            refine hK.out _ _ (keep7 p1 hbW'.out (by repeat (first | (with_reducible exact Below.refl _ _) | (with_reducible exact hB3.out) | (with_reducible exact hB4.out) | (with_reducible exact hF3) | (with_reducible refine below_drew ?_) | (with_reducible refine below_alloc ?_ _)))) (fun hHeld => ?_)
            clear hK K
            refine pure_ (i := 12) (N := (some 75)) (v := ?_) (a' := ?_) #[true, true, true, true, true, true, true, true, true, true, true, true, true, false, false] rfl rfl (by kernel_rfl) (fun _ _ _ h => h) (Or.inl ⟨by rfl, ?_⟩) ?_ ?_
            rotate_left
            · intro w'
              go_simp
              with_reducible rfl
            rotate_left
            · simp only [Act.put, List.setIfInBounds_toArray, List.set_cons_zero, List.set_cons_succ, i64_w, i32_w]
              rfl
            refine pure_ (i := 13) (N := (some 76)) (v := ?_) (a' := ?_) #[true, true, true, true, true, true, true, true, true, true, true, true, true, true, false] rfl rfl (by kernel_rfl) (fun _ _ _ h => h) (Or.inl ⟨by rfl, ?_⟩) ?_ ?_
            rotate_left
            · intro w'
              go_simp
              with_reducible rfl
            rotate_left
            · simp only [Act.put, List.setIfInBounds_toArray, List.set_cons_zero, List.set_cons_succ, i64_w, i32_w]
              rfl
            refine last_ (i := 14) (N := none) #[true, true, true, true, true, true, true, true, true, true, true, true, true, true, true] rfl rfl (by kernel_rfl) (by decide) (fun K hK => ?_)
            obtain ⟨s0, -⟩ := hHeld
            go_simp
            refine hK.out _ _ ?_
            clear hK K
            refine done_ (by kernel_rfl) ?_
            go_wp2_with fail
            go_meet
            exact ⟨⟨⟨_, hfin.out⟩⟩, ⟨hfk.out⟩⟩
          · intro hj
            refine two_ (i := 1) (j := 10) (Ni := (some 64)) (Nj := (some 73)) #[true, true, true, true, true, true, false, true, true, true, false, false, false, false, false] #[true, false, true, true, true, true, false, true, true, true, true, false, false, false, false] rfl rfl rfl rfl (by kernel_rfl) (by decide) (by decide) (fun K hK => ?_) (fun K hK => ?_)
            · go_simp
              refine hK.out _ _ (keep7 p1 hbW'.out (by repeat (first | (with_reducible exact Below.refl _ _) | (with_reducible exact hB3.out) | (with_reducible exact hB4.out) | (with_reducible exact hF3) | (with_reducible refine below_drew ?_) | (with_reducible refine below_alloc ?_ _)))) (fun hHeld => ?_)
              clear hK K
              refine two_ (i := 6) (j := 10) (Ni := (some 69)) (Nj := (some 73)) #[true, true, true, true, true, true, true, true, true, true, false, false, false, false, false] #[true, true, true, true, true, true, false, true, true, true, true, false, false, false, false] rfl rfl rfl rfl (by kernel_rfl) (by decide) (by decide) (fun K hK => ?_) (fun K hK => ?_)
              · refine Kd.R_append_rows_step kLt (w0 := W) 0 (by rfl) (.tmp 64) (.tmp 68) 70 75 _ 64 (by rfl) Try.underlying70 infoLt75 rfl (by decide) (by decide) _ [] L A L.length cap (fun k => ok k ∧ k ≠ p) (fun _ => False) (by rfl) (by rfl) (R_mtk kLt (by repeat (first | (with_reducible exact blk_new_at (by simp)) | (with_reducible refine blk_alloc ?_ _) | (with_reducible refine blk_drew ?_))) (Nat.zero_le _) (hok1'.out _ (by first | omega | (simp; omega)))) (Kd.C_below hCW'.out (by repeat (first | (with_reducible exact Below.refl _ _) | (with_reducible exact hB3.out) | (with_reducible exact hB4.out) | (with_reducible exact hF3) | (with_reducible refine below_drew ?_) | (with_reducible refine below_alloc ?_ _)))) (fun x cs hx => by rw [kLt_open hx]; exact kLt_mk _ _ _ x) (fun _ hk => hk.elim) (fun k hk => hok1'.out k (by simp at hk; omega)) (below0 (by repeat (first | (with_reducible exact Below.refl _ _) | (with_reducible exact hB3.out) | (with_reducible exact hB4.out) | (with_reducible exact hF3) | (with_reducible refine below_drew ?_) | (with_reducible refine below_alloc ?_ _)))) (Nat.zero_le _) (by simp; omega) ?_
                intro v3 w3 hR3 _ hg3 hat3
                rw [List.nil_append] at hR3
                have hB3 : Aside0 (Below W.heap.size W w3) := ⟨pw_below_grown (by repeat (first | (with_reducible exact Below.refl _ _) | (with_reducible exact hB3.out) | (with_reducible exact hB4.out) | (with_reducible exact hF3) | (with_reducible refine below_drew ?_) | (with_reducible refine below_alloc ?_ _))) _ (by simp <;> omega) hg3 (fun k e => by simp [Value.ownBlock] at e; omega)⟩
                have hfr3 : Aside0 (∀ k, v3.ownBlock = some k → W.heap.size ≤ k) := ⟨fun k e => by
                  rcases hat3 with e1 | ⟨b, e1, hb⟩
                  · rw [e1] at e; simp [Value.ownBlock] at e; omega
                  · rw [e1] at e; cases e; simp at hb; omega⟩
                have hR3' := Aside0.mk hR3
                have hs3 : W.heap.size ≤ w3.heap.size := hB3.out.size
                refine hK.out _ _ (keep7 p1 hbW'.out (by repeat (first | (with_reducible exact Below.refl _ _) | (with_reducible exact hB3.out) | (with_reducible exact hB4.out) | (with_reducible exact hF3) | (with_reducible refine below_drew ?_) | (with_reducible refine below_alloc ?_ _)))) (fun hHeld => ?_)
                clear hK K
                refine norm_ (a' := Act.put _ (some 69) v3) (by rfl) ?_
                refine one_ (i := 10) (N := (some 73)) #[true, true, true, true, true, true, true, true, true, true, true, false, false, false, false] rfl rfl (by kernel_rfl) (by decide) (fun K hK => ?_)
                go_simp
                refine hK.out _ _ (keep7 p1 hbW'.out (by repeat (first | (with_reducible exact Below.refl _ _) | (with_reducible exact hB3.out) | (with_reducible exact hB4.out) | (with_reducible exact hF3) | (with_reducible refine below_drew ?_) | (with_reducible refine below_alloc ?_ _)))) (fun hHeld => ?_)
                clear hK K
                exact norm_ (by simp only [putAll, Act.put, List.setIfInBounds_toArray, List.set_cons_zero, List.set_cons_succ, i64_w, i32_w]) (hj (W.heap.size, v3, w3.heap.size) _ ⟨(Kd.R_below hR3'.out (by repeat (first | (with_reducible exact Below.refl _ _) | (with_reducible refine below_drew ?_) | (with_reducible refine below_alloc ?_ _)))), C_one ⟨xt, xk, xi, xu, xs, xa, xo⟩ (by repeat (first | (with_reducible exact blk_new_at (by simp)) | (with_reducible refine blk_grown ?_ hg3 (by simp [Value.ownBlock])) | (with_reducible refine blk_alloc ?_ _) | (with_reducible refine blk_drew ?_))), (by repeat (first | (with_reducible exact Below.refl _ _) | (with_reducible exact hB3.out) | (with_reducible exact hB4.out) | (with_reducible exact hF3) | (with_reducible refine below_drew ?_) | (with_reducible refine below_alloc ?_ _))), hfr3.out⟩)
              · go_simp
                refine hK.out _ _ (keep7 p1 hbW'.out (by repeat (first | (with_reducible exact Below.refl _ _) | (with_reducible exact hB3.out) | (with_reducible exact hB4.out) | (with_reducible exact hF3) | (with_reducible refine below_drew ?_) | (with_reducible refine below_alloc ?_ _)))) (fun hHeld => ?_)
                clear hK K
                refine one_ (i := 6) (N := (some 69)) #[true, true, true, true, true, true, true, true, true, true, true, false, false, false, false] rfl rfl (by kernel_rfl) (by decide) (fun K hK => ?_)
                refine Kd.R_append_rows_step kLt (w0 := W) 0 (by rfl) (.tmp 64) (.tmp 68) 70 75 _ 64 (by rfl) Try.underlying70 infoLt75 rfl (by decide) (by decide) _ [] L A L.length cap (fun k => ok k ∧ k ≠ p) (fun _ => False) (by rfl) (by rfl) (R_mtk kLt (by repeat (first | (with_reducible exact blk_new_at (by simp)) | (with_reducible refine blk_alloc ?_ _) | (with_reducible refine blk_drew ?_))) (Nat.zero_le _) (hok1'.out _ (by first | omega | (simp; omega)))) (Kd.C_below hCW'.out (by repeat (first | (with_reducible exact Below.refl _ _) | (with_reducible exact hB3.out) | (with_reducible exact hB4.out) | (with_reducible exact hF3) | (with_reducible refine below_drew ?_) | (with_reducible refine below_alloc ?_ _)))) (fun x cs hx => by rw [kLt_open hx]; exact kLt_mk _ _ _ x) (fun _ hk => hk.elim) (fun k hk => hok1'.out k (by simp at hk; omega)) (below0 (by repeat (first | (with_reducible exact Below.refl _ _) | (with_reducible exact hB3.out) | (with_reducible exact hB4.out) | (with_reducible exact hF3) | (with_reducible refine below_drew ?_) | (with_reducible refine below_alloc ?_ _)))) (Nat.zero_le _) (by simp; omega) ?_
                intro v3 w3 hR3 _ hg3 hat3
                rw [List.nil_append] at hR3
                have hB3 : Aside0 (Below W.heap.size W w3) := ⟨pw_below_grown (by repeat (first | (with_reducible exact Below.refl _ _) | (with_reducible exact hB3.out) | (with_reducible exact hB4.out) | (with_reducible exact hF3) | (with_reducible refine below_drew ?_) | (with_reducible refine below_alloc ?_ _))) _ (by simp <;> omega) hg3 (fun k e => by simp [Value.ownBlock] at e; omega)⟩
                have hfr3 : Aside0 (∀ k, v3.ownBlock = some k → W.heap.size ≤ k) := ⟨fun k e => by
                  rcases hat3 with e1 | ⟨b, e1, hb⟩
                  · rw [e1] at e; simp [Value.ownBlock] at e; omega
                  · rw [e1] at e; cases e; simp at hb; omega⟩
                have hR3' := Aside0.mk hR3
                have hs3 : W.heap.size ≤ w3.heap.size := hB3.out.size
                refine hK.out _ _ (keep7 p1 hbW'.out (by repeat (first | (with_reducible exact Below.refl _ _) | (with_reducible exact hB3.out) | (with_reducible exact hB4.out) | (with_reducible exact hF3) | (with_reducible refine below_drew ?_) | (with_reducible refine below_alloc ?_ _)))) (fun hHeld => ?_)
                clear hK K
                refine norm_ (a' := Act.put _ (some 69) v3) (by rfl) ?_
                exact norm_ (by simp only [putAll, Act.put, List.setIfInBounds_toArray, List.set_cons_zero, List.set_cons_succ, i64_w, i32_w]) (hj (W.heap.size, v3, W.heap.size + 1) _ ⟨hR3'.out, C_one ⟨xt, xk, xi, xu, xs, xa, xo⟩ (by repeat (first | (with_reducible exact blk_new_at (by simp)) | (with_reducible refine blk_grown ?_ hg3 (by simp [Value.ownBlock])) | (with_reducible refine blk_alloc ?_ _) | (with_reducible refine blk_drew ?_))), (by repeat (first | (with_reducible exact Below.refl _ _) | (with_reducible exact hB3.out) | (with_reducible exact hB4.out) | (with_reducible exact hF3) | (with_reducible refine below_drew ?_) | (with_reducible refine below_alloc ?_ _))), hfr3.out⟩)
            · go_simp
              refine hK.out _ _ (keep7 p1 hbW'.out (by repeat (first | (with_reducible exact Below.refl _ _) | (with_reducible exact hB3.out) | (with_reducible exact hB4.out) | (with_reducible exact hF3) | (with_reducible refine below_drew ?_) | (with_reducible refine below_alloc ?_ _)))) (fun hHeld => ?_)
              clear hK K
              refine one_ (i := 1) (N := (some 64)) #[true, true, true, true, true, true, false, true, true, true, true, false, false, false, false] rfl rfl (by kernel_rfl) (by decide) (fun K hK => ?_)
              go_simp
              refine hK.out _ _ (keep7 p1 hbW'.out (by repeat (first | (with_reducible exact Below.refl _ _) | (with_reducible exact hB3.out) | (with_reducible exact hB4.out) | (with_reducible exact hF3) | (with_reducible refine below_drew ?_) | (with_reducible refine below_alloc ?_ _)))) (fun hHeld => ?_)
              clear hK K
              refine one_ (i := 6) (N := (some 69)) #[true, true, true, true, true, true, true, true, true, true, true, false, false, false, false] rfl rfl (by kernel_rfl) (by decide) (fun K hK => ?_)
              refine Kd.R_append_rows_step kLt (w0 := W) 0 (by rfl) (.tmp 64) (.tmp 68) 70 75 _ 64 (by rfl) Try.underlying70 infoLt75 rfl (by decide) (by decide) _ [] L A L.length cap (fun k => ok k ∧ k ≠ p) (fun _ => False) (by rfl) (by rfl) (R_mtk kLt (by repeat (first | (with_reducible exact blk_new_at (by simp)) | (with_reducible refine blk_alloc ?_ _) | (with_reducible refine blk_drew ?_))) (Nat.zero_le _) (hok1'.out _ (by first | omega | (simp; omega)))) (Kd.C_below hCW'.out (by repeat (first | (with_reducible exact Below.refl _ _) | (with_reducible exact hB3.out) | (with_reducible exact hB4.out) | (with_reducible exact hF3) | (with_reducible refine below_drew ?_) | (with_reducible refine below_alloc ?_ _)))) (fun x cs hx => by rw [kLt_open hx]; exact kLt_mk _ _ _ x) (fun _ hk => hk.elim) (fun k hk => hok1'.out k (by simp at hk; omega)) (below0 (by repeat (first | (with_reducible exact Below.refl _ _) | (with_reducible exact hB3.out) | (with_reducible exact hB4.out) | (with_reducible exact hF3) | (with_reducible refine below_drew ?_) | (with_reducible refine below_alloc ?_ _)))) (Nat.zero_le _) (by simp; omega) ?_
              intro v3 w3 hR3 _ hg3 hat3
              rw [List.nil_append] at hR3
              have hB3 : Aside0 (Below W.heap.size W w3) := ⟨pw_below_grown (by repeat (first | (with_reducible exact Below.refl _ _) | (with_reducible exact hB3.out) | (with_reducible exact hB4.out) | (with_reducible exact hF3) | (with_reducible refine below_drew ?_) | (with_reducible refine below_alloc ?_ _))) _ (by simp <;> omega) hg3 (fun k e => by simp [Value.ownBlock] at e; omega)⟩
              have hfr3 : Aside0 (∀ k, v3.ownBlock = some k → W.heap.size ≤ k) := ⟨fun k e => by
                rcases hat3 with e1 | ⟨b, e1, hb⟩
                · rw [e1] at e; simp [Value.ownBlock] at e; omega
                · rw [e1] at e; cases e; simp at hb; omega⟩
              have hR3' := Aside0.mk hR3
              have hs3 : W.heap.size ≤ w3.heap.size := hB3.out.size
              refine hK.out _ _ (keep7 p1 hbW'.out (by repeat (first | (with_reducible exact Below.refl _ _) | (with_reducible exact hB3.out) | (with_reducible exact hB4.out) | (with_reducible exact hF3) | (with_reducible refine below_drew ?_) | (with_reducible refine below_alloc ?_ _)))) (fun hHeld => ?_)
              clear hK K
              refine norm_ (a' := Act.put _ (some 69) v3) (by rfl) ?_
              exact norm_ (by simp only [putAll, Act.put, List.setIfInBounds_toArray, List.set_cons_zero, List.set_cons_succ, i64_w, i32_w]) (hj (W.heap.size + 1, v3, W.heap.size) _ ⟨hR3'.out, C_one ⟨xt, xk, xi, xu, xs, xa, xo⟩ (by repeat (first | (with_reducible exact blk_new_at (by simp)) | (with_reducible refine blk_grown ?_ hg3 (by simp [Value.ownBlock])) | (with_reducible refine blk_alloc ?_ _) | (with_reducible refine blk_drew ?_))), (by repeat (first | (with_reducible exact Below.refl _ _) | (with_reducible exact hB3.out) | (with_reducible exact hB4.out) | (with_reducible exact hF3) | (with_reducible refine below_drew ?_) | (with_reducible refine below_alloc ?_ _))), hfr3.out⟩)
        case rest =>
          obtain ⟨h5, h6⟩ := hcut
          go_wp2_with fail
          go_ret
          exact ⟨rfl, h5.out, (Fk.of_below hBW2.out).trans h6.out⟩
end Go.Proofs.Ytdglbiafpofeeaa.Obx
