/- Whether an expression is sound, and formed: the walk. -/
import Derived.Test.YtdhlbhkpleoicaaDoorExSound
import Derived.Test.YtdhlbhkpleoicaaDoorFrames
namespace Go.Proofs.YtdhlbhkpleoicaaDoor.Exp
open Go.RowKit Go.Proofs.YtdhlbhkpleoicaaDoorW.PrintWords Go.Proofs.YtdhlbhkpleoicaaDoorW.PrintLast Go.Proofs.YtdhlbhkpleoicaaDoorW.PrintMore Go.Proofs.YtdhlbhkpleoicaaDoor.PExprEvals
open Frm
set_option linter.unusedVariables false
set_option linter.unusedSimpArgs false
attribute [local go_sem] ta_nil_35 ta_35_35 ta_54_35 ta_33_35 ta_47_35 ta_53_35 ta_nil_54 ta_35_54 ta_54_54 ta_33_54 ta_47_54 ta_53_54 ta_nil_33 ta_35_33 ta_54_33 ta_33_33 ta_47_33 ta_53_33 ta_nil_47 ta_35_47 ta_54_47 ta_33_47 ta_47_47 ta_53_47 ta_nil_53 ta_35_53 ta_54_53 ta_33_53 ta_47_53 ta_53_53
set_option maxHeartbeats 1000000 in
set_option maxRecDepth 100000 in
theorem sound1_calls (y : Ex) (k : Int) (b : Nat) (W : World) (hb : W.heap[b]? = some (.cells #[.int .i64 k] 3 (0, 0)))
    (ih : ∀ w, Calls Tryd.prog 23 #[enc y, .int .i64 (wrap64 (k - 1))] w fun e w' => e = .returned (.bool (snd y (wrap64 (k - 1)))) ∧ Below w.heap.size w w') :
    Calls Tryd.prog 41 #[enc y, .pointer (some ⟨b, 0, none⟩)] W fun e w' => e = .returned (.bool (!snd y (wrap64 (k - 1)))) ∧ Below W.heap.size W w' := by
  have ih' := Aside0.mk ih
  have c0 : W.cell? ⟨b, 0, none⟩ = some (.int .i64 k) := (blk_cell hb 0).trans rfl
  have hl : b < W.heap.size := blk_lt hb
  obtain ⟨v, hv⟩ : ∃ v, enc y = v := ⟨_, rfl⟩
  have hv1 : v = .nilIface ∨ ∃ t u, v = .iface t u := hv ▸ enc_form y
  rw [hv] at ih' ⊢
  clear ih hb hv
  rcases hv1 with rfl | ⟨t, u, rfl⟩
  all_goals
    go_enter Tryd.func41, Tryd.ntmps41
    go_wp2_with (first | (go_at_call 23; (with_reducible refine (ih'.out _).mono ?_); rintro e w1 ⟨rfl, hb1⟩; have hb1' := Aside0.mk hb1; clear hb1) | fail)
    go_ret
    exact ⟨rfl, hb1'.out⟩
set_option maxHeartbeats 4000000 in
set_option maxRecDepth 100000 in
theorem sound_calls : ∀ (d : Nat) (x : Ex) (k : Int) (w : World), dep x < d →
    Calls Tryd.prog 23 #[enc x, .int .i64 k] w fun e w' => e = .returned (.bool (snd x k)) ∧ Below w.heap.size w w' := by
  intro d
  induction d with
  | zero => intro x k w hd; omega
  | succ d ih =>
    intro x k w hd
    have ih' := Aside0.mk ih
    have hd' := Aside0.mk hd
    clear ih hd
    cases x with
    | none =>
      rw [show enc Ex.none = .nilIface from rfl]
      obtain ⟨l, hl⟩ : ∃ l, ([] : List Ex) = l := ⟨_, rfl⟩
      have cO : Aside0 (∀ w, Calls Tryd.prog 28 #[.nilIface] w fun e w' => ∃ v, e = .returned v ∧ Kd.R kEx 33 w' w.heap.size (fun _ => True) v l ∧ Below w.heap.size w w') := ⟨fun w => hl ▸ operands_calls Ex.none w⟩
      have hll : Aside0 (l.length = 0) := ⟨by rw [← hl]; rfl⟩
      have hdep : Aside0 (∀ y ∈ l, dep y < dep Ex.none) := ⟨fun y hy => dep_ops (by rw [← hl] at hy; exact hy)⟩
      obtain ⟨E, hEE⟩ : ∃ E, snd Ex.none k = E := ⟨_, rfl⟩
      have hE : Aside0 (E = false) := ⟨by rw [← hEE]; rfl⟩
      rw [hEE]
      clear hEE hl
      by_cases h0 : 0 < k
      · have d0 : decide (0 < k) = true := decide_eq_true h0
        have hlp : Aside0 (decide ((0 : Int) < ((l.length : Nat) : Int)) = false) := ⟨by rw [hll.out]; rfl⟩
        have hlp2 := hlp.out
        have hlp3 : decide (0 < l.length) = false := by rw [hll.out]; rfl
        go_enter Tryd.func23, Tryd.ntmps23
        go_upto_region 8 with fail
        go_quiet (fail)
        go_upto_region 10 with fail
        refine wp_world (fun W hW => ?_)
        have hK : W.heap[w.heap.size]? = some (.cells #[.int .i64 k] 3 (0, 0)) := by rw [hW]; exact blk_below (w := w.alloc _) (blk_new _ _) (by repeat (first | (with_reducible exact Below.refl _ _) | (with_reducible refine below_alloc ?_ _) | (with_reducible refine pw_below_drewN ?_ _) | (with_reducible refine below_drew ?_)))
        have hBW : Below w.heap.size w W := by rw [hW]; exact (by repeat (first | (with_reducible exact Below.refl _ _) | (with_reducible refine below_alloc ?_ _) | (with_reducible refine pw_below_drewN ?_ _) | (with_reducible refine below_drew ?_)))
        obtain ⟨b, hb⟩ : ∃ b, w.heap.size = b := ⟨_, rfl⟩
        rw [hb] at hK
        rw [hb]
        have hK' := Aside0.mk hK
        have hBW' := Aside0.mk hBW
        clear hW hK hBW
        go_wp2_with (first | (go_at_call 28; (with_reducible refine (cO.out _).mono ?_); rintro e w1 ⟨v, rfl, hR, hb1⟩; obtain ⟨A, c, rfl, hc, hC⟩ := Kd.R_reads hR; have hC' := Aside0.mk hC; have hb1' := Aside0.mk hb1; have hK1 := Aside0.mk (blk_below hK'.out hb1); have hk0 : w1.cell? ⟨b, 0, none⟩ = some (.int .i64 k) := (blk_cell hK1.out 0).trans rfl; have hkl : b < w1.heap.size := blk_lt hK1.out; have cC := Aside0.mk (ContainsE_calls (fun y => !snd y (wrap64 (k - 1))) (.pointer (some ⟨b, 0, none⟩)) l (by have := hll.out; omega) A c w1 hC (fun W hW y hy => sound1_calls y k b W (blk_below hK1.out hW) (fun w => ih'.out y _ w (by have := hdep.out y hy; have := hd'.out; omega)))); clear hC hb1 hR) | (go_at_call 40; (with_reducible refine cC.out.mono ?_); rintro e w2 ⟨rfl, hb2⟩; have hb2' := Aside0.mk hb2; clear hb2) | fail)
        go_ret
        subst hb
        exact ⟨by rw [hE.out]; try rfl, (by have hz := hBW'.out.size; first | exact below_step hBW'.out hb1'.out | exact below_step (below_step hBW'.out hb1'.out) hb2'.out)⟩
      · have d0 : decide (0 < k) = false := decide_eq_false h0
        go_enter Tryd.func23, Tryd.ntmps23
        go_upto_region 8 with fail
        go_quiet (fail)
        go_upto_region 10 with fail
        refine wp_world (fun W hW => ?_)
        have hK : W.heap[w.heap.size]? = some (.cells #[.int .i64 k] 3 (0, 0)) := by rw [hW]; exact blk_below (w := w.alloc _) (blk_new _ _) (by repeat (first | (with_reducible exact Below.refl _ _) | (with_reducible refine below_alloc ?_ _) | (with_reducible refine pw_below_drewN ?_ _) | (with_reducible refine below_drew ?_)))
        have hBW : Below w.heap.size w W := by rw [hW]; exact (by repeat (first | (with_reducible exact Below.refl _ _) | (with_reducible refine below_alloc ?_ _) | (with_reducible refine pw_below_drewN ?_ _) | (with_reducible refine below_drew ?_)))
        obtain ⟨b, hb⟩ : ∃ b, w.heap.size = b := ⟨_, rfl⟩
        rw [hb] at hK
        rw [hb]
        have hK' := Aside0.mk hK
        have hBW' := Aside0.mk hBW
        clear hW hK hBW
        go_wp2_with (first | (go_at_call 28; (with_reducible refine (cO.out _).mono ?_); rintro e w1 ⟨v, rfl, hR, hb1⟩; obtain ⟨A, c, rfl, hc, hC⟩ := Kd.R_reads hR; have hC' := Aside0.mk hC; have hb1' := Aside0.mk hb1; have hK1 := Aside0.mk (blk_below hK'.out hb1); have hk0 : w1.cell? ⟨b, 0, none⟩ = some (.int .i64 k) := (blk_cell hK1.out 0).trans rfl; have hkl : b < w1.heap.size := blk_lt hK1.out; have cC := Aside0.mk (ContainsE_calls (fun y => !snd y (wrap64 (k - 1))) (.pointer (some ⟨b, 0, none⟩)) l (by have := hll.out; omega) A c w1 hC (fun W hW y hy => sound1_calls y k b W (blk_below hK1.out hW) (fun w => ih'.out y _ w (by have := hdep.out y hy; have := hd'.out; omega)))); clear hC hb1 hR) | (go_at_call 40; (with_reducible refine cC.out.mono ?_); rintro e w2 ⟨rfl, hb2⟩; have hb2' := Aside0.mk hb2; clear hb2) | fail)
        go_ret
        subst hb
        exact ⟨by rw [hE.out]; try rfl, (by have hz := hBW'.out.size; first | exact below_step hBW'.out hb1'.out | exact below_step (below_step hBW'.out hb1'.out) hb2'.out)⟩
    | lit n =>
      unfold enc snd
      by_cases h0 : 0 < k
      · have d0 : decide (0 < k) = true := decide_eq_true h0
        by_cases h1 : 0 ≤ n
        · have d1 : decide (0 ≤ n) = true := decide_eq_true h1
          have hE : decide (0 < k ∧ 0 ≤ n ∧ n ≤ 1000000000) = decide (n ≤ 1000000000) := by simp [h0, h1]
          rw [hE]
          go_enter Tryd.func23, Tryd.ntmps23
          go_wp2
          go_ret
          exact ⟨rfl, by repeat (first | (with_reducible exact Below.refl _ _) | (with_reducible refine below_alloc ?_ _) | (with_reducible refine pw_below_drewN ?_ _) | (with_reducible refine below_drew ?_))⟩
        · have d1 : decide (0 ≤ n) = false := decide_eq_false h1
          have hE : decide (0 < k ∧ 0 ≤ n ∧ n ≤ 1000000000) = false := by simp [h1]
          rw [hE]
          go_enter Tryd.func23, Tryd.ntmps23
          go_wp2
          go_ret
          exact ⟨rfl, by repeat (first | (with_reducible exact Below.refl _ _) | (with_reducible refine below_alloc ?_ _) | (with_reducible refine pw_below_drewN ?_ _) | (with_reducible refine below_drew ?_))⟩
      · have d0 : decide (0 < k) = false := decide_eq_false h0
        have hE : decide (0 < k ∧ 0 ≤ n ∧ n ≤ 1000000000) = false := by simp [h0]
        rw [hE]
        go_enter Tryd.func23, Tryd.ntmps23
        go_wp2
        go_ret
        exact ⟨rfl, by repeat (first | (with_reducible exact Below.refl _ _) | (with_reducible refine below_alloc ?_ _) | (with_reducible refine pw_below_drewN ?_ _) | (with_reducible refine below_drew ?_))⟩
    | ref s =>
      unfold enc snd
      have cN := Aside0.mk (fun w => Name_calls s w)
      by_cases h0 : 0 < k
      · have d0 : decide (0 < k) = true := decide_eq_true h0
        go_enter Tryd.func23, Tryd.ntmps23
        go_wp2_with (first | (go_at_call 37; (with_reducible refine (cN.out _).mono ?_); rintro e w1 ⟨rfl, hb1⟩; have hb1' := Aside0.mk hb1; clear hb1) | fail)
        go_ret
        exact ⟨by simp [h0], below_step (by repeat (first | (with_reducible exact Below.refl _ _) | (with_reducible refine below_alloc ?_ _) | (with_reducible refine pw_below_drewN ?_ _) | (with_reducible refine below_drew ?_))) hb1'.out⟩
      · have d0 : decide (0 < k) = false := decide_eq_false h0
        go_enter Tryd.func23, Tryd.ntmps23
        go_wp2
        go_ret
        exact ⟨by simp [h0], by repeat (first | (with_reducible exact Below.refl _ _) | (with_reducible refine below_alloc ?_ _) | (with_reducible refine pw_below_drewN ?_ _) | (with_reducible refine below_drew ?_))⟩
    | not x =>
      rw [show enc (Ex.not x) = .iface 60 (.agg #[enc x]) from rfl]
      obtain ⟨l, hl⟩ : ∃ l, [x] = l := ⟨_, rfl⟩
      have cO : Aside0 (∀ w, Calls Tryd.prog 28 #[.iface 60 (.agg #[enc x])] w fun e w' => ∃ v, e = .returned v ∧ Kd.R kEx 33 w' w.heap.size (fun _ => True) v l ∧ Below w.heap.size w w') := ⟨fun w => hl ▸ operands_calls (Ex.not x) w⟩
      have hll : Aside0 (l.length = 1) := ⟨by rw [← hl]; rfl⟩
      have hdep : Aside0 (∀ y ∈ l, dep y < dep (Ex.not x)) := ⟨fun y hy => dep_ops (by rw [← hl] at hy; exact hy)⟩
      obtain ⟨E, hEE⟩ : ∃ E, snd (Ex.not x) k = E := ⟨_, rfl⟩
      have hE : Aside0 (E = ( decide (0 < k) && !(l.any (fun y => !snd y (wrap64 (k - 1)))))) := ⟨by rw [← hEE, ← hl]; simp [snd, Bool.and_assoc]⟩
      rw [hEE]
      clear hEE hl
      by_cases h0 : 0 < k
      · have d0 : decide (0 < k) = true := decide_eq_true h0
        have hlp : Aside0 (decide ((0 : Int) < ((l.length : Nat) : Int)) = true) := ⟨by rw [hll.out]; rfl⟩
        have hlp2 := hlp.out
        have hlp3 : decide (0 < l.length) = true := by rw [hll.out]; rfl
        have hE1 : Aside0 (E = !(l.any (fun y => !snd y (wrap64 (k - 1))))) := ⟨by rw [hE.out, d0]; simp⟩
        go_enter Tryd.func23, Tryd.ntmps23
        go_upto_region 8 with fail
        go_quiet (fail)
        go_upto_region 10 with fail
        refine wp_world (fun W hW => ?_)
        have hK : W.heap[w.heap.size]? = some (.cells #[.int .i64 k] 3 (0, 0)) := by rw [hW]; exact blk_below (w := w.alloc _) (blk_new _ _) (by repeat (first | (with_reducible exact Below.refl _ _) | (with_reducible refine below_alloc ?_ _) | (with_reducible refine pw_below_drewN ?_ _) | (with_reducible refine below_drew ?_)))
        have hBW : Below w.heap.size w W := by rw [hW]; exact (by repeat (first | (with_reducible exact Below.refl _ _) | (with_reducible refine below_alloc ?_ _) | (with_reducible refine pw_below_drewN ?_ _) | (with_reducible refine below_drew ?_)))
        obtain ⟨b, hb⟩ : ∃ b, w.heap.size = b := ⟨_, rfl⟩
        rw [hb] at hK
        rw [hb]
        have hK' := Aside0.mk hK
        have hBW' := Aside0.mk hBW
        clear hW hK hBW
        go_wp2_with (first | (go_at_call 28; (with_reducible refine (cO.out _).mono ?_); rintro e w1 ⟨v, rfl, hR, hb1⟩; obtain ⟨A, c, rfl, hc, hC⟩ := Kd.R_reads hR; have hC' := Aside0.mk hC; have hb1' := Aside0.mk hb1; have hK1 := Aside0.mk (blk_below hK'.out hb1); have hk0 : w1.cell? ⟨b, 0, none⟩ = some (.int .i64 k) := (blk_cell hK1.out 0).trans rfl; have hkl : b < w1.heap.size := blk_lt hK1.out; have cC := Aside0.mk (ContainsE_calls (fun y => !snd y (wrap64 (k - 1))) (.pointer (some ⟨b, 0, none⟩)) l (by have := hll.out; omega) A c w1 hC (fun W hW y hy => sound1_calls y k b W (blk_below hK1.out hW) (fun w => ih'.out y _ w (by have := hdep.out y hy; have := hd'.out; omega)))); clear hC hb1 hR) | (go_at_call 40; (with_reducible refine cC.out.mono ?_); rintro e w2 ⟨rfl, hb2⟩; have hb2' := Aside0.mk hb2; clear hb2) | fail)
        go_ret
        subst hb
        exact ⟨by rw [hE1.out]; try rfl, (by have hz := hBW'.out.size; first | exact below_step hBW'.out hb1'.out | exact below_step (below_step hBW'.out hb1'.out) hb2'.out)⟩
      · have d0 : decide (0 < k) = false := decide_eq_false h0
        have hE1 : Aside0 (E = false) := ⟨by rw [hE.out, d0]; simp⟩
        go_enter Tryd.func23, Tryd.ntmps23
        go_upto_region 8 with fail
        go_quiet (fail)
        go_upto_region 10 with fail
        refine wp_world (fun W hW => ?_)
        have hK : W.heap[w.heap.size]? = some (.cells #[.int .i64 k] 3 (0, 0)) := by rw [hW]; exact blk_below (w := w.alloc _) (blk_new _ _) (by repeat (first | (with_reducible exact Below.refl _ _) | (with_reducible refine below_alloc ?_ _) | (with_reducible refine pw_below_drewN ?_ _) | (with_reducible refine below_drew ?_)))
        have hBW : Below w.heap.size w W := by rw [hW]; exact (by repeat (first | (with_reducible exact Below.refl _ _) | (with_reducible refine below_alloc ?_ _) | (with_reducible refine pw_below_drewN ?_ _) | (with_reducible refine below_drew ?_)))
        obtain ⟨b, hb⟩ : ∃ b, w.heap.size = b := ⟨_, rfl⟩
        rw [hb] at hK
        rw [hb]
        have hK' := Aside0.mk hK
        have hBW' := Aside0.mk hBW
        clear hW hK hBW
        go_wp2_with (first | (go_at_call 28; (with_reducible refine (cO.out _).mono ?_); rintro e w1 ⟨v, rfl, hR, hb1⟩; obtain ⟨A, c, rfl, hc, hC⟩ := Kd.R_reads hR; have hC' := Aside0.mk hC; have hb1' := Aside0.mk hb1; have hK1 := Aside0.mk (blk_below hK'.out hb1); have hk0 : w1.cell? ⟨b, 0, none⟩ = some (.int .i64 k) := (blk_cell hK1.out 0).trans rfl; have hkl : b < w1.heap.size := blk_lt hK1.out; have cC := Aside0.mk (ContainsE_calls (fun y => !snd y (wrap64 (k - 1))) (.pointer (some ⟨b, 0, none⟩)) l (by have := hll.out; omega) A c w1 hC (fun W hW y hy => sound1_calls y k b W (blk_below hK1.out hW) (fun w => ih'.out y _ w (by have := hdep.out y hy; have := hd'.out; omega)))); clear hC hb1 hR) | (go_at_call 40; (with_reducible refine cC.out.mono ?_); rintro e w2 ⟨rfl, hb2⟩; have hb2' := Aside0.mk hb2; clear hb2) | fail)
        go_ret
        subst hb
        exact ⟨by rw [hE1.out]; try rfl, (by have hz := hBW'.out.size; first | exact below_step hBW'.out hb1'.out | exact below_step (below_step hBW'.out hb1'.out) hb2'.out)⟩
    | neg x =>
      rw [show enc (Ex.neg x) = .iface 61 (.agg #[enc x]) from rfl]
      obtain ⟨l, hl⟩ : ∃ l, [x] = l := ⟨_, rfl⟩
      have cO : Aside0 (∀ w, Calls Tryd.prog 28 #[.iface 61 (.agg #[enc x])] w fun e w' => ∃ v, e = .returned v ∧ Kd.R kEx 33 w' w.heap.size (fun _ => True) v l ∧ Below w.heap.size w w') := ⟨fun w => hl ▸ operands_calls (Ex.neg x) w⟩
      have hll : Aside0 (l.length = 1) := ⟨by rw [← hl]; rfl⟩
      have hdep : Aside0 (∀ y ∈ l, dep y < dep (Ex.neg x)) := ⟨fun y hy => dep_ops (by rw [← hl] at hy; exact hy)⟩
      obtain ⟨E, hEE⟩ : ∃ E, snd (Ex.neg x) k = E := ⟨_, rfl⟩
      have hE : Aside0 (E = ( decide (0 < k) && !(l.any (fun y => !snd y (wrap64 (k - 1)))))) := ⟨by rw [← hEE, ← hl]; simp [snd, Bool.and_assoc]⟩
      rw [hEE]
      clear hEE hl
      by_cases h0 : 0 < k
      · have d0 : decide (0 < k) = true := decide_eq_true h0
        have hlp : Aside0 (decide ((0 : Int) < ((l.length : Nat) : Int)) = true) := ⟨by rw [hll.out]; rfl⟩
        have hlp2 := hlp.out
        have hlp3 : decide (0 < l.length) = true := by rw [hll.out]; rfl
        have hE1 : Aside0 (E = !(l.any (fun y => !snd y (wrap64 (k - 1))))) := ⟨by rw [hE.out, d0]; simp⟩
        go_enter Tryd.func23, Tryd.ntmps23
        go_upto_region 8 with fail
        go_quiet (fail)
        go_upto_region 10 with fail
        refine wp_world (fun W hW => ?_)
        have hK : W.heap[w.heap.size]? = some (.cells #[.int .i64 k] 3 (0, 0)) := by rw [hW]; exact blk_below (w := w.alloc _) (blk_new _ _) (by repeat (first | (with_reducible exact Below.refl _ _) | (with_reducible refine below_alloc ?_ _) | (with_reducible refine pw_below_drewN ?_ _) | (with_reducible refine below_drew ?_)))
        have hBW : Below w.heap.size w W := by rw [hW]; exact (by repeat (first | (with_reducible exact Below.refl _ _) | (with_reducible refine below_alloc ?_ _) | (with_reducible refine pw_below_drewN ?_ _) | (with_reducible refine below_drew ?_)))
        obtain ⟨b, hb⟩ : ∃ b, w.heap.size = b := ⟨_, rfl⟩
        rw [hb] at hK
        rw [hb]
        have hK' := Aside0.mk hK
        have hBW' := Aside0.mk hBW
        clear hW hK hBW
        go_wp2_with (first | (go_at_call 28; (with_reducible refine (cO.out _).mono ?_); rintro e w1 ⟨v, rfl, hR, hb1⟩; obtain ⟨A, c, rfl, hc, hC⟩ := Kd.R_reads hR; have hC' := Aside0.mk hC; have hb1' := Aside0.mk hb1; have hK1 := Aside0.mk (blk_below hK'.out hb1); have hk0 : w1.cell? ⟨b, 0, none⟩ = some (.int .i64 k) := (blk_cell hK1.out 0).trans rfl; have hkl : b < w1.heap.size := blk_lt hK1.out; have cC := Aside0.mk (ContainsE_calls (fun y => !snd y (wrap64 (k - 1))) (.pointer (some ⟨b, 0, none⟩)) l (by have := hll.out; omega) A c w1 hC (fun W hW y hy => sound1_calls y k b W (blk_below hK1.out hW) (fun w => ih'.out y _ w (by have := hdep.out y hy; have := hd'.out; omega)))); clear hC hb1 hR) | (go_at_call 40; (with_reducible refine cC.out.mono ?_); rintro e w2 ⟨rfl, hb2⟩; have hb2' := Aside0.mk hb2; clear hb2) | fail)
        go_ret
        subst hb
        exact ⟨by rw [hE1.out]; try rfl, (by have hz := hBW'.out.size; first | exact below_step hBW'.out hb1'.out | exact below_step (below_step hBW'.out hb1'.out) hb2'.out)⟩
      · have d0 : decide (0 < k) = false := decide_eq_false h0
        have hE1 : Aside0 (E = false) := ⟨by rw [hE.out, d0]; simp⟩
        go_enter Tryd.func23, Tryd.ntmps23
        go_upto_region 8 with fail
        go_quiet (fail)
        go_upto_region 10 with fail
        refine wp_world (fun W hW => ?_)
        have hK : W.heap[w.heap.size]? = some (.cells #[.int .i64 k] 3 (0, 0)) := by rw [hW]; exact blk_below (w := w.alloc _) (blk_new _ _) (by repeat (first | (with_reducible exact Below.refl _ _) | (with_reducible refine below_alloc ?_ _) | (with_reducible refine pw_below_drewN ?_ _) | (with_reducible refine below_drew ?_)))
        have hBW : Below w.heap.size w W := by rw [hW]; exact (by repeat (first | (with_reducible exact Below.refl _ _) | (with_reducible refine below_alloc ?_ _) | (with_reducible refine pw_below_drewN ?_ _) | (with_reducible refine below_drew ?_)))
        obtain ⟨b, hb⟩ : ∃ b, w.heap.size = b := ⟨_, rfl⟩
        rw [hb] at hK
        rw [hb]
        have hK' := Aside0.mk hK
        have hBW' := Aside0.mk hBW
        clear hW hK hBW
        go_wp2_with (first | (go_at_call 28; (with_reducible refine (cO.out _).mono ?_); rintro e w1 ⟨v, rfl, hR, hb1⟩; obtain ⟨A, c, rfl, hc, hC⟩ := Kd.R_reads hR; have hC' := Aside0.mk hC; have hb1' := Aside0.mk hb1; have hK1 := Aside0.mk (blk_below hK'.out hb1); have hk0 : w1.cell? ⟨b, 0, none⟩ = some (.int .i64 k) := (blk_cell hK1.out 0).trans rfl; have hkl : b < w1.heap.size := blk_lt hK1.out; have cC := Aside0.mk (ContainsE_calls (fun y => !snd y (wrap64 (k - 1))) (.pointer (some ⟨b, 0, none⟩)) l (by have := hll.out; omega) A c w1 hC (fun W hW y hy => sound1_calls y k b W (blk_below hK1.out hW) (fun w => ih'.out y _ w (by have := hdep.out y hy; have := hd'.out; omega)))); clear hC hb1 hR) | (go_at_call 40; (with_reducible refine cC.out.mono ?_); rintro e w2 ⟨rfl, hb2⟩; have hb2' := Aside0.mk hb2; clear hb2) | fail)
        go_ret
        subst hb
        exact ⟨by rw [hE1.out]; try rfl, (by have hz := hBW'.out.size; first | exact below_step hBW'.out hb1'.out | exact below_step (below_step hBW'.out hb1'.out) hb2'.out)⟩
    | bin op x y =>
      obtain ⟨vl, hvl⟩ : ∃ vl, enc x = vl := ⟨_, rfl⟩
      obtain ⟨vr, hvr⟩ : ∃ vr, enc y = vr := ⟨_, rfl⟩
      obtain ⟨l, hl⟩ : ∃ l, [x, y] = l := ⟨_, rfl⟩
      have cO : Aside0 (∀ w, Calls Tryd.prog 28 #[.iface 50 (.agg #[.string op, vl, vr])] w fun e w' => ∃ v, e = .returned v ∧ Kd.R kEx 33 w' w.heap.size (fun _ => True) v l ∧ Below w.heap.size w w') := ⟨fun w => by rw [← hl, ← hvl, ← hvr]; exact operands_calls (Ex.bin op x y) w⟩
      have hll : Aside0 (l.length = 2) := ⟨by rw [← hl]; rfl⟩
      have hdep : Aside0 (∀ z ∈ l, dep z < dep (Ex.bin op x y)) := ⟨fun z hz => dep_ops (by rw [← hl] at hz; exact hz)⟩
      obtain ⟨E, hEE⟩ : ∃ E, snd (Ex.bin op x y) k = E := ⟨_, rfl⟩
      have hE : Aside0 (E = (isOp op && (decide (0 < k) && !(l.any (fun z => !snd z (wrap64 (k - 1))))))) := ⟨by rw [← hEE, ← hl]; simp [snd, Bool.and_assoc]⟩
      rw [show enc (Ex.bin op x y) = .iface 50 (.agg #[.string op, enc x, enc y]) from rfl, hvl, hvr, hEE]
      have cP := Aside0.mk (fun w => expr_Operators.calls opNames w rfl)
      obtain ⟨ib, hib⟩ : ∃ ib, isOp op = ib := ⟨_, rfl⟩
      have cQ := Aside0.mk (fun A c w h1 h2 => slices_Contains_string_string.calls 20 A c opNames op ib w h1 h2 (by rw [contains_f, hib]))
      rw [hib] at hE
      have hf1 : vl = .nilIface ∨ ∃ t u, vl = .iface t u := hvl ▸ enc_form x
      have hf2 : vr = .nilIface ∨ ∃ t u, vr = .iface t u := hvr ▸ enc_form y
      clear hEE hl hvl hvr hib
      rcases hf1 with rfl | ⟨t1, u1, rfl⟩ <;> rcases hf2 with rfl | ⟨t2, u2, rfl⟩
      all_goals
        go_enter Tryd.func23, Tryd.ntmps23
        go_upto_region 8 with fail
        refine wp_world (fun W hW => ?_)
        have hK : W.heap[w.heap.size]? = some (.cells #[.int .i64 k] 3 (0, 0)) := by rw [hW]; exact blk_below (w := w.alloc _) (blk_new _ _) (by repeat (first | (with_reducible exact Below.refl _ _) | (with_reducible refine below_alloc ?_ _) | (with_reducible refine pw_below_drewN ?_ _) | (with_reducible refine below_drew ?_)))
        obtain ⟨p1, q1, hX⟩ : ∃ p1 q1, W.heap[w.heap.size + 1 + 1 + 1]? = some (.cells #[.string op, p1, q1] 50 (0, 0)) := ⟨_, _, by rw [hW]; exact blk_new_at (by simp)⟩
        have hBW : Below w.heap.size w W := by rw [hW]; exact (by repeat (first | (with_reducible exact Below.refl _ _) | (with_reducible refine below_alloc ?_ _) | (with_reducible refine pw_below_drewN ?_ _) | (with_reducible refine below_drew ?_)))
        obtain ⟨b, hb⟩ : ∃ b, w.heap.size = b := ⟨_, rfl⟩
        rw [hb] at hK hX
        rw [hb]
        have o0 : W.cell? ⟨b + 1 + 1 + 1, 0, none⟩ = some (.string op) := (blk_cell hX 0).trans rfl
        have o0' := Aside0.mk o0
        have hK' := Aside0.mk hK
        have hBW' := Aside0.mk hBW
        clear hW hK hBW hX
        go_region_held3 (fun w' => w'.cell? ⟨b + 1 + 1 + 1, 0, none⟩ = some (.string op))
          (refine keepx (W := W) o0'.out (by repeat (first | (with_reducible exact Below.refl _ _) | (with_reducible exact hX4.out) | (with_reducible exact hX5.out) | (with_reducible refine below_drew ?_) | (with_reducible refine pw_below_drewN ?_ _))))
          (first
            | (go_at_call 39; (with_reducible refine (cP.out _).mono ?_); rintro e w4 ⟨v4, rfl, hR4, hb4⟩; obtain ⟨A4, c4, rfl, hc4, hC4⟩ := Kd.R_reads hR4; have hC4' := Aside0.mk hC4; have hX4 : Aside0 (Below W.heap.size W w4) := ⟨(below_drew (Below.refl _ _)).trans hb4⟩; clear hC4 hb4 hR4)
            | (go_at_call 38; (with_reducible refine (cQ.out A4 c4 _ hC4'.out hc4).mono ?_); rintro e w5 ⟨rfl, ⟨m5, hm5⟩⟩; have hX5 : Aside0 (Below W.heap.size W w5) := ⟨by rw [hm5]; exact pw_below_drewN hX4.out _⟩; clear hm5)
            | fail)
        have hBW5 := Aside0.mk (below_step hBW'.out hX5.out)
        have hK5 := Aside0.mk (blk_below hK'.out hX5.out)
        cases ib with
        | false =>
          go_wp2
          go_ret
          subst hb
          exact ⟨by rw [hE.out]; rfl, hBW5.out⟩
        | true =>
          have hlp2 : decide ((0 : Int) < ((l.length : Nat) : Int)) = true := by rw [hll.out]; rfl
          have hlp3 : decide (0 < l.length) = true := by rw [hll.out]; rfl
          have hK' := hK5
          have hBW' := hBW5
          by_cases h0 : 0 < k
          · have d0 : decide (0 < k) = true := decide_eq_true h0
            have hE1 : Aside0 (E = !(l.any (fun y => !snd y (wrap64 (k - 1))))) := ⟨by rw [hE.out, d0]; simp⟩
            go_wp2_with (first | (go_at_call 28; (with_reducible refine (cO.out _).mono ?_); rintro e w1 ⟨v, rfl, hR, hb1⟩; obtain ⟨A, c, rfl, hc, hC⟩ := Kd.R_reads hR; have hC' := Aside0.mk hC; have hb1' := Aside0.mk hb1; have hK1 := Aside0.mk (blk_below hK'.out hb1); have hk0 : w1.cell? ⟨b, 0, none⟩ = some (.int .i64 k) := (blk_cell hK1.out 0).trans rfl; have hkl : b < w1.heap.size := blk_lt hK1.out; have cC := Aside0.mk (ContainsE_calls (fun y => !snd y (wrap64 (k - 1))) (.pointer (some ⟨b, 0, none⟩)) l (by have := hll.out; omega) A c w1 hC (fun W hW y hy => sound1_calls y k b W (blk_below hK1.out hW) (fun w => ih'.out y _ w (by have := hdep.out y hy; have := hd'.out; omega)))); clear hC hb1 hR) | (go_at_call 40; (with_reducible refine cC.out.mono ?_); rintro e w2 ⟨rfl, hb2⟩; have hb2' := Aside0.mk hb2; clear hb2) | fail)
            go_ret
            subst hb
            exact ⟨by rw [hE1.out]; try rfl, (by have hz := hBW'.out.size; first | exact below_step hBW'.out hb1'.out | exact below_step (below_step hBW'.out hb1'.out) hb2'.out)⟩
          · have d0 : decide (0 < k) = false := decide_eq_false h0
            have hE1 : Aside0 (E = false) := ⟨by rw [hE.out, d0]; simp⟩
            go_wp2_with (first | (go_at_call 28; (with_reducible refine (cO.out _).mono ?_); rintro e w1 ⟨v, rfl, hR, hb1⟩; obtain ⟨A, c, rfl, hc, hC⟩ := Kd.R_reads hR; have hC' := Aside0.mk hC; have hb1' := Aside0.mk hb1; have hK1 := Aside0.mk (blk_below hK'.out hb1); have hk0 : w1.cell? ⟨b, 0, none⟩ = some (.int .i64 k) := (blk_cell hK1.out 0).trans rfl; have hkl : b < w1.heap.size := blk_lt hK1.out; have cC := Aside0.mk (ContainsE_calls (fun y => !snd y (wrap64 (k - 1))) (.pointer (some ⟨b, 0, none⟩)) l (by have := hll.out; omega) A c w1 hC (fun W hW y hy => sound1_calls y k b W (blk_below hK1.out hW) (fun w => ih'.out y _ w (by have := hdep.out y hy; have := hd'.out; omega)))); clear hC hb1 hR) | (go_at_call 40; (with_reducible refine cC.out.mono ?_); rintro e w2 ⟨rfl, hb2⟩; have hb2' := Aside0.mk hb2; clear hb2) | fail)
            go_ret
            subst hb
            exact ⟨by rw [hE1.out]; try rfl, (by have hz := hBW'.out.size; first | exact below_step hBW'.out hb1'.out | exact below_step (below_step hBW'.out hb1'.out) hb2'.out)⟩
end Go.Proofs.YtdhlbhkpleoicaaDoor.Exp
