/- The document's Forget; Letters, same. -/
import Derived.Test.YtdglbiafpofeeaaOutRAns
namespace Go.Proofs.Ytdglbiafpofeeaa.Obx
open Go.RowKit Go.Proofs.YtdglbiafpofeeaaW.PrintWords Go.Proofs.YtdglbiafpofeeaaW.PrintLast Go.Proofs.YtdglbiafpofeeaaW.PrintMore Go.Proofs.Ytdglbiafpofeeaa.POutboxNil
open Frm
set_option linter.unusedVariables false
set_option linter.unusedSimpArgs false
set_option maxHeartbeats 4000000 in
set_option maxRecDepth 100000 in
theorem rForget_calls (L : List Lt) (hl : L.length ≤ 1000) (nn : Int) (ok : Nat → Prop) (p : Nat) (w : World) (hok : ∀ k, w.heap.size ≤ k → ok k) (h : IsO 72 75 ok w p L) :
    Calls Try.prog 31 #[.pointer (some ⟨p, 0, none⟩), .int .i64 nn] w fun e w' => e = .returned (.int .i64 (forget L nn).2) ∧ IsO 72 75 ok w' p (forget L nn).1 ∧ Fk [72, 75] ok w w' := by
  obtain ⟨v, h⟩ := h
  obtain ⟨A, cap, rfl, hcap, hC⟩ := h.form
  have p0 := h.cell
  have hpl : p < w.heap.size := blk_lt h.blk
  have h' := Aside0.mk h
  have hok1' : Aside0 (∀ k, w.heap.size ≤ k → ok k ∧ k ≠ p) := ⟨fun k hk => ⟨hok k hk, by omega⟩⟩
  clear h hC hok hcap
  go_enter Try.func31, Try.ntmps31
  go_wp2_with fail
  go_loopg [13, 5] (L.length + 1) (fun kq v13 v5 w' => ∃ (i : Nat) (B : Option Addr) (c : Nat), v13 = .int .i64 (i : Int) ∧ v5 = .slice B ((L.take i).filter (stays nn)).length c ∧ Aside0 (kq + i = L.length + 1) ∧ Aside0 (i ≤ L.length) ∧ Aside0 (Kd.R kLt 75 w' 0 (fun k => ok k ∧ k ≠ p) (.slice B ((L.take i).filter (stays nn)).length c) ((L.take i).filter (stays nn))) ∧ Aside0 (∀ k, (Value.slice B ((L.take i).filter (stays nn)).length c).ownBlock = some k → w.heap.size ≤ k) ∧ Aside0 (Below w.heap.size w w'))
  case atStart => exact ⟨0, none, 0, rfl, rfl, ⟨by omega⟩, ⟨by omega⟩, ⟨Kd.R_nil _ _ _ _ _⟩, ⟨fun k hk => by simp [Value.ownBlock] at hk⟩, ⟨Below.refl _ _⟩⟩
  case round =>
    clear p0
    obtain ⟨i, B, c, rfl, rfl, hk, hi, hR, hfr, hB⟩ := hrel
    have hOr := Aside0.mk (h'.out.below hB.out)
    have hsr : w.heap.size ≤ wr.heap.size := hB.out.size
    have pr := hOr.out.cell
    have hpr : p < wr.heap.size := by omega
    have hFl : ((L.take i).filter (stays nn)).length ≤ 1000 := Nat.le_trans (List.length_filter_le _ _) (by rw [List.length_take]; omega)
    by_cases hlt : i < L.length
    · have hd : decide ((i : Int) < (L.length : Int)) = true := decide_eq_true (by omega)
      have hd' : decide (i < L.length) = true := decide_eq_true hlt
      cases gk with
      | zero => exact absurd hk.out (by omega)
      | succ k1 =>
        have hlt' := Aside0.mk hlt
        obtain ⟨x, hq⟩ : ∃ x, L[i]? = some x := ⟨_, List.getElem?_eq_getElem hlt⟩
        obtain ⟨g, cap', eA, _, hgl, _⟩ := Kd.R_form hOr.out.row (by omega)
        cases eA
        obtain ⟨y0, y1, y2, y3, y4, y5, y6⟩ := el7 hOr.out.row hq
        have hst := Aside0.mk (filter_step nn L hq)
        obtain ⟨F, hF⟩ : ∃ F, (L.take i).filter (stays nn) = F := ⟨_, rfl⟩
        rw [hF] at hR hfr hFl hst ⊢
        obtain ⟨xt, xk, xi, xu, xs, xa, xo⟩ := x
        simp only [] at y0 y1 y2 y3 y4 y5 y6 hst
        clear hq hF
        cases hbb : (xi == nn) with
        | true =>
          have e1 := hst.out
          rw [hbb, if_pos rfl, List.append_nil] at e1
          have e1' := Aside0.mk e1
          clear e1 hst
          go_wp2
          go_roundg k1
          case measure => have := hk.out; omega
          case rel => exact ⟨i + 1, B, c, by go_num, by rw [e1'.out], ⟨by have := hk.out; omega⟩, ⟨by have := hlt'.out; omega⟩, ⟨by rw [e1'.out]; exact hR.out⟩, ⟨by rw [e1'.out]; exact hfr.out⟩, hB⟩
        | false =>
          have e1 := hst.out
          rw [hbb, if_neg (by decide)] at e1
          have e1' := Aside0.mk e1
          clear e1 hst
          have hg1 : g < wr.heap.size := hgl
          go_wp2_with (first
            | ((with_reducible refine gate_builtin (b := .append) (xs := #[.tmp 27, .tmp 35]) rfl ?_); at_builtin
               refine Kd.R_append kLt (w0 := wr) 0 rfl (.tmp 27) (.tmp 35) 70 75 _ 64 rfl Try.underlying70 infoLt75 rfl (by decide) (by decide) (.slice B F.length c) F ⟨xt, xk, xi, xu, xs, xa, xo⟩ [.int .i64 xt, .int .i64 xk, .int .i64 xi, .int .i64 xu, .string xs, .int .i64 xa, .bool xo] (fun k => ok k ∧ k ≠ p) (fun _ => False) rfl rfl (kLt_mk _ _ _ ⟨xt, xk, xi, xu, xs, xa, xo⟩) (fun _ hk => hk.elim) (fun k hk => hok1'.out k (by omega)) hR.out (Below.refl _ _) (Nat.zero_le _) (by omega) ?_
               intro v1 w1 hR1 _ hg2 hat1
               have hB1 : Aside0 (Below w.heap.size w w1) := ⟨pw_below_grown hB.out _ hsr hg2 (fun k e => hfr.out k e)⟩
               have hfr1 : Aside0 (∀ k, v1.ownBlock = some k → w.heap.size ≤ k) := ⟨fun k e => by
                 rcases hat1 with e1 | ⟨b, e1, hb⟩
                 · rw [e1] at e; exact hfr.out k e
                 · rw [e1] at e; cases e; omega⟩
               rw [← e1'.out] at hR1
               obtain ⟨B1, c1, e5⟩ := Kd.R_slice hR1
               subst e5
               have hR1' := Aside0.mk hR1
               clear hR1 hg2 hat1)
            | fail)
          go_roundg k1
          case measure => have := hk.out; omega
          case rel => exact ⟨i + 1, B1, c1, by go_num, rfl, ⟨by have := hk.out; omega⟩, ⟨by have := hlt'.out; omega⟩, hR1', hfr1, hB1⟩
    · have hd : decide ((i : Int) < (L.length : Int)) = false := decide_eq_false (by omega)
      have hd' : decide (i < L.length) = false := decide_eq_false hlt
      obtain rfl : i = L.length := by have := hi.out; omega
      rw [List.take_length] at hR hfr hFl ⊢
      have hfg : forget L nn = (L.filter (stays nn), (L.length : Int) - ((L.filter (stays nn)).length : Int)) := rfl
      have hFle : (L.filter (stays nn)).length ≤ L.length := List.length_filter_le _ _
      obtain ⟨F, hF⟩ : ∃ F, L.filter (stays nn) = F := ⟨_, rfl⟩
      rw [hF] at hR hfr hFl hfg hFle ⊢
      have hfg' := Aside0.mk hfg
      have f0 : wr.frozen? ⟨p, 0, none⟩ = false := blk_frozen hOr.out.blk 0
      have hfin := Aside0.mk (hOr.out.store hOr.out.blk hR.out)
      have hfk := Aside0.mk ((Fk.of_below (T := [72, 75]) (ok := ok) hB.out).set hOr.out.blk (by simp) hOr.out.pk 0 (.slice B F.length c))
      clear hF hfg
      go_wp2
      go_ret
      rw [hfg'.out]
      exact ⟨rfl, ⟨_, hfin.out⟩, hfk.out⟩
set_option maxHeartbeats 2000000 in
set_option maxRecDepth 100000 in
theorem Letters_calls (L : List Lt) (hl : L.length ≤ 1000) (A : Option Addr) (cp : Nat) (w : World) (hC : Kd.C kLt w A L.length L) :
    Calls Try.prog 33 #[.slice A L.length cp] w fun e w' => ∃ v, e = .returned v ∧ Kd.R kLt 75 w' w.heap.size (fun _ => True) v L ∧ Below w.heap.size w w' := by
  have hC' := Aside0.mk hC
  clear hC
  go_enter Try.func33, Try.ntmps33
  go_wp2_with fail
  go_loopg [7, 3] (L.length + 1) (fun kq v7 v3 w' => ∃ (i : Nat) (B : Option Addr) (c : Nat), v7 = .int .i64 (i : Int) ∧ v3 = .slice B (L.take i).length c ∧ Aside0 (kq + i = L.length + 1) ∧ Aside0 (i ≤ L.length) ∧ Aside0 (Kd.R kLt 75 w' w.heap.size (fun _ => True) (.slice B (L.take i).length c) (L.take i)) ∧ Aside0 (Below w.heap.size w w'))
  case atStart => exact ⟨0, none, 0, rfl, rfl, ⟨by omega⟩, ⟨by omega⟩, ⟨Kd.R_nil _ _ _ _ _⟩, ⟨Below.refl _ _⟩⟩
  case round =>
    obtain ⟨i, B, c, rfl, rfl, hk, hi, hR, hB⟩ := hrel
    have hsr : w.heap.size ≤ wr.heap.size := hB.out.size
    have hFl : (L.take i).length ≤ 1000 := by rw [List.length_take]; omega
    by_cases hlt : i < L.length
    · have hd : decide ((i : Int) < (L.length : Int)) = true := decide_eq_true (by omega)
      have hd' : decide (i < L.length) = true := decide_eq_true hlt
      cases gk with
      | zero => exact absurd hk.out (by omega)
      | succ k1 =>
        have hlt' := Aside0.mk hlt
        obtain ⟨x, hq⟩ : ∃ x, L[i]? = some x := ⟨_, List.getElem?_eq_getElem hlt⟩
        obtain ⟨ad, rfl, y0, y1, y2, y3, y4, y5, y6⟩ := at_Lt (Kd.C_below hC'.out hB.out) hq
        have hst : Aside0 (L.take (i + 1) = L.take i ++ [x]) := ⟨by rw [List.take_add_one, hq]; rfl⟩
        obtain ⟨F, hF⟩ : ∃ F, L.take i = F := ⟨_, rfl⟩
        rw [hF] at hR hFl hst ⊢
        obtain ⟨xt, xk, xi, xu, xs, xa, xo⟩ := x
        simp only [] at y0 y1 y2 y3 y4 y5 y6
        clear hq hF
        go_wp2_with (first
          | ((with_reducible refine gate_builtin (b := .append) (xs := #[.tmp 10, .tmp 15]) rfl ?_); at_builtin
             refine Kd.R_append kLt (w0 := w) w.heap.size rfl (.tmp 10) (.tmp 15) 70 75 _ 64 rfl Try.underlying70 infoLt75 rfl (by decide) (by decide) (.slice B F.length c) F ⟨xt, xk, xi, xu, xs, xa, xo⟩ [.int .i64 xt, .int .i64 xk, .int .i64 xi, .int .i64 xu, .string xs, .int .i64 xa, .bool xo] (fun _ => True) (fun _ => False) rfl rfl (kLt_mk _ _ _ ⟨xt, xk, xi, xu, xs, xa, xo⟩) (fun _ hk => hk.elim) (fun _ _ => trivial) hR.out hB.out hsr (by omega) ?_
             intro v1 w1 hR1 hB1 hg2 hat1
             rw [← hst.out] at hR1
             obtain ⟨B1, c1, e5⟩ := Kd.R_slice hR1
             subst e5
             have hR1' := Aside0.mk hR1
             have hB1' := Aside0.mk hB1
             clear hR1 hB1 hg2 hat1)
          | fail)
        go_roundg k1
        case measure => have := hk.out; omega
        case rel => exact ⟨i + 1, B1, c1, by go_num, by simp, ⟨by have := hk.out; omega⟩, ⟨by have := hlt'.out; omega⟩, hR1', hB1'⟩
    · have hd : decide ((i : Int) < (L.length : Int)) = false := decide_eq_false (by omega)
      have hd' : decide (i < L.length) = false := decide_eq_false hlt
      obtain rfl : i = L.length := by have := hi.out; omega
      rw [List.take_length] at hR hFl ⊢
      go_wp2
      go_ret
      exact ⟨_, rfl, hR.out, hB.out⟩
set_option maxHeartbeats 2000000 in
set_option maxRecDepth 100000 in
theorem same_calls (L : List Lt) (hl : L.length ≤ 1000) (A B : Option Addr) (cp dp : Nat) (w : World) (hC : Kd.C kLt w A L.length L) (hD : Kd.C kLt w B L.length L) :
    Calls Try.prog 32 #[.slice A L.length cp, .slice B L.length dp] w fun e w' => e = .returned (.bool true) ∧ Below w.heap.size w w' := by
  have hC' := Aside0.mk hC
  have hD' := Aside0.mk hD
  clear hC hD
  go_enter Try.func32, Try.ntmps32
  go_wp2_with fail
  go_loopg [13] (L.length + 1) (fun kq v13 w' => ∃ (i n : Nat), v13 = .int .i64 (i : Int) ∧ Aside0 (kq + i = L.length + 1) ∧ Aside0 (i ≤ L.length) ∧ w' = w.drewN n)
  case atStart => exact ⟨0, 0, rfl, ⟨by omega⟩, ⟨by omega⟩, rfl⟩
  case round =>
    obtain ⟨i, n, rfl, hk, hi, rfl⟩ := hrel
    by_cases hlt : i < L.length
    · have hd : decide ((i : Int) < (L.length : Int)) = true := decide_eq_true (by omega)
      have hd' : decide (i < L.length) = true := decide_eq_true hlt
      cases gk with
      | zero => exact absurd hk.out (by omega)
      | succ k1 =>
        have hlt' := Aside0.mk hlt
        obtain ⟨x, hq⟩ : ∃ x, L[i]? = some x := ⟨_, List.getElem?_eq_getElem hlt⟩
        obtain ⟨ad, rfl, y0, y1, y2, y3, y4, y5, y6⟩ := at_Lt hC'.out hq
        obtain ⟨bd, rfl, z0, z1, z2, z3, z4, z5, z6⟩ := at_Lt hD'.out hq
        obtain ⟨xt, xk, xi, xu, xs, xa, xo⟩ := x
        simp only [] at y0 y1 y2 y3 y4 y5 y6 z0 z1 z2 z3 z4 z5 z6
        clear hq
        go_upto_region 6 with fail
        go_quiet (fail)
        go_wp2
        go_roundg k1
        case measure => have := hk.out; omega
        case rel => exact ⟨i + 1, _, by go_num, ⟨by have := hk.out; omega⟩, ⟨by have := hlt'.out; omega⟩, rfl⟩
    · have hd : decide ((i : Int) < (L.length : Int)) = false := decide_eq_false (by omega)
      have hd' : decide (i < L.length) = false := decide_eq_false hlt
      go_wp2
      go_ret
      exact ⟨rfl, pw_below_drewN (Below.refl _ _) n⟩
end Go.Proofs.Ytdglbiafpofeeaa.Obx
