/- The value of an expression: the walk. -/
import Derived.Test.YtdhlbhkpleoicaaDoorExEval
namespace Go.Proofs.YtdhlbhkpleoicaaDoor.Exp
open Go.RowKit Go.Proofs.YtdhlbhkpleoicaaDoorW.PrintWords Go.Proofs.YtdhlbhkpleoicaaDoorW.PrintLast Go.Proofs.YtdhlbhkpleoicaaDoorW.PrintMore Go.Proofs.YtdhlbhkpleoicaaDoor.PExprEvals
open Frm
set_option linter.unusedVariables false
set_option linter.unusedSimpArgs false
attribute [local go_sem] ta_nil_35 ta_35_35 ta_54_35 ta_33_35 ta_47_35 ta_53_35 ta_nil_54 ta_35_54 ta_54_54 ta_33_54 ta_47_54 ta_53_54 ta_nil_33 ta_35_33 ta_54_33 ta_33_33 ta_47_33 ta_53_33 ta_nil_47 ta_35_47 ta_54_47 ta_33_47 ta_47_47 ta_53_47 ta_nil_53 ta_35_53 ta_54_53 ta_33_53 ta_47_53 ta_53_53
def sPlus : ByteArray := ⟨#[43]⟩
def sMinus : ByteArray := ⟨#[45]⟩
def sMul : ByteArray := ⟨#[42]⟩
def sLess : ByteArray := ⟨#[60]⟩
def sLeq : ByteArray := ⟨#[60, 61]⟩
def sEq : ByteArray := ⟨#[61, 61]⟩
def sNe : ByteArray := ⟨#[33, 61]⟩
def sAnd : ByteArray := ⟨#[38, 38]⟩
def sOr : ByteArray := ⟨#[124, 124]⟩
def withB (n : Int) : Int × Int := (n, bnd n)
def arith (op : ByteArray) (x y : Int) : Int × Int :=
  if op = sPlus then withB (wrap64 (x + y)) else
  if op = sMinus then withB (wrap64 (x - y)) else
  if op = sMul then withB (wrap64 (x * y)) else
  if op = sLess then (tru (decide (x < y)), 0) else
  if op = sLeq then (tru (decide (x ≤ y)), 0) else
  if op = sEq then (tru (x == y), 0) else
  if op = sNe then (tru (x != y), 0) else (tru (y != 0), 0)
/-- The value (and the error) of an expression. -/
def ev (vs : List S46) : Ex → Int × Int
  | .none => (0, 0)
  | .lit n => (n, 0)
  | .ref s => look vs s
  | .not x => (tru ((ev vs x).1 == 0), (ev vs x).2)
  | .neg x => (wrap64 (-(ev vs x).1), (ev vs x).2)
  | .bin op l r =>
    if (ev vs l).2 ≠ 0 ∨ (op = sAnd ∧ (ev vs l).1 = 0) ∨ (op = sOr ∧ (ev vs l).1 ≠ 0) then (tru ((ev vs l).1 != 0), (ev vs l).2)
    else if (ev vs r).2 ≠ 0 then (0, (ev vs r).2) else arith op (ev vs l).1 (ev vs r).1
/-- No part of it is none. -/
def full : Ex → Bool
  | .none => false
  | .lit _ => true
  | .ref _ => true
  | .not x => full x
  | .neg x => full x
  | .bin _ l r => full l && full r
theorem full_of_snd : ∀ (x : Ex) (k : Int), snd x k = true → full x = true
  | .none, k, h => by cases h
  | .lit _, _, _ => rfl
  | .ref _, _, _ => rfl
  | .not x, k, h => by
    simp only [snd, Bool.and_eq_true] at h
    exact full_of_snd x _ h.2
  | .neg x, k, h => by
    simp only [snd, Bool.and_eq_true] at h
    exact full_of_snd x _ h.2
  | .bin op l r, k, h => by
    simp only [snd, Bool.and_eq_true] at h
    simp only [full, Bool.and_eq_true]
    exact ⟨full_of_snd l _ h.1.2, full_of_snd r _ h.2⟩
theorem strB (s c : ByteArray) (l : List UInt8) (h : c.data.toList = l) : (s.toList == l) = decide (s = c) := by
  rw [← beq_str, ByteArray.toList_eq c, h]
structure OpF (op : ByteArray) (b1 b2 b3 b4 b5 b6 b7 b8 b9 : Bool) : Prop where
  p1 : (op.toList == [43]) = b1
  p2 : (op.toList == [45]) = b2
  p3 : (op.toList == [42]) = b3
  p4 : (op.toList == [60]) = b4
  p5 : (op.toList == [60, 61]) = b5
  p6 : (op.toList == [61, 61]) = b6
  p7 : (op.toList == [33, 61]) = b7
  p8 : (op.toList == [38, 38]) = b8
  p9 : (op.toList == [124, 124]) = b9
theorem opF (op : ByteArray) : OpF op (decide (op = sPlus)) (decide (op = sMinus)) (decide (op = sMul)) (decide (op = sLess)) (decide (op = sLeq)) (decide (op = sEq)) (decide (op = sNe)) (decide (op = sAnd)) (decide (op = sOr)) :=
  ⟨strB _ _ _ rfl, strB _ _ _ rfl, strB _ _ _ rfl, strB _ _ _ rfl, strB _ _ _ rfl, strB _ _ _ rfl, strB _ _ _ rfl, strB _ _ _ rfl, strB _ _ _ rfl⟩
set_option maxHeartbeats 4000000 in
set_option maxRecDepth 100000 in
theorem bin_calls (vs : List S46) (op : ByteArray) (l r : Ex) (w0 : World) (g : Nat) (w : World) (W0 : World) (h : Ev w0 g vs 0 W0 w)
    (hl : ∀ w, Ev w0 g vs 0 W0 w → Calls Tryd.prog 20 #[.pointer (some ⟨g, 0, none⟩), enc l] w fun e w' => e = .returned (.int .i64 (ev vs l).1) ∧ Ev w0 g vs (ev vs l).2 w w')
    (hr : ∀ w, Ev w0 g vs 0 W0 w → Calls Tryd.prog 20 #[.pointer (some ⟨g, 0, none⟩), enc r] w fun e w' => e = .returned (.int .i64 (ev vs r).1) ∧ Ev w0 g vs (ev vs r).2 w w') :
    Calls Tryd.prog 34 #[.pointer (some ⟨g, 0, none⟩), .agg #[.string op, enc l, enc r]] w fun e w' => e = .returned (.int .i64 (ev vs (.bin op l r)).1) ∧ Ev w0 g vs (ev vs (.bin op l r)).2 W0 w' := by
  obtain ⟨⟨rn, re⟩, hres⟩ : ∃ p, ev vs (.bin op l r) = p := ⟨_, rfl⟩
  rw [hres]
  unfold ev at hres
  obtain ⟨⟨xn, xe⟩, hx⟩ : ∃ p, ev vs l = p := ⟨_, rfl⟩
  obtain ⟨⟨yn, ye⟩, hy⟩ : ∃ p, ev vs r = p := ⟨_, rfl⟩
  rw [hx] at hl hres
  rw [hy] at hr hres
  simp only [] at hl hr hres ⊢
  obtain ⟨vl, hvl⟩ : ∃ v, enc l = v := ⟨_, rfl⟩
  obtain ⟨vr, hvr⟩ : ∃ v, enc r = v := ⟨_, rfl⟩
  have hf1 : vl = .nilIface ∨ ∃ t u, vl = .iface t u := hvl ▸ enc_form l
  have hf2 : vr = .nilIface ∨ ∃ t u, vr = .iface t u := hvr ▸ enc_form r
  rw [hvl] at hl ⊢
  rw [hvr] at hr ⊢
  have hl' := Aside0.mk hl
  have hr' := Aside0.mk hr
  have h' := Aside0.mk h
  have hres' := Aside0.mk hres
  clear hx hy hvl hvr hl hr h hres
  rcases hf1 with rfl | ⟨t1, u1, rfl⟩ <;> rcases hf2 with rfl | ⟨t2, u2, rfl⟩
  · by_cases hx0 : xe = 0
    · subst hx0
      by_cases hop : op = sPlus
      · have f1 : (op.toList == [43]) = true := by rw [(opF op).p1]; rw [hop]; decide
        have f2 : (op.toList == [45]) = false := by rw [(opF op).p2]; rw [hop]; decide
        have f3 : (op.toList == [42]) = false := by rw [(opF op).p3]; rw [hop]; decide
        have f4 : (op.toList == [60]) = false := by rw [(opF op).p4]; rw [hop]; decide
        have f5 : (op.toList == [60, 61]) = false := by rw [(opF op).p5]; rw [hop]; decide
        have f6 : (op.toList == [61, 61]) = false := by rw [(opF op).p6]; rw [hop]; decide
        have f7 : (op.toList == [33, 61]) = false := by rw [(opF op).p7]; rw [hop]; decide
        have f8 : (op.toList == [38, 38]) = false := by rw [(opF op).p8]; rw [hop]; decide
        have f9 : (op.toList == [124, 124]) = false := by rw [(opF op).p9]; rw [hop]; decide
        have hop' := Aside0.mk hop
        clear hop
        by_cases hy0 : ye = 0
        · subst hy0
          have hR : Aside0 (withB (wrap64 (xn + yn)) = (rn, re)) := ⟨by rw [← hres'.out, if_neg (by rw [hop'.out]; simp [show sPlus ≠ sAnd from by decide, show sPlus ≠ sOr from by decide]), if_neg (by simp)]; unfold arith; rw [hop'.out]; rfl⟩
          go_enter Tryd.func34, Tryd.ntmps34
          go_upto_region 1 with fail
          refine wp_world (fun W hW => ?_)
          obtain ⟨b, hb⟩ : ∃ b, w.heap.size = b := ⟨_, rfl⟩
          obtain ⟨A, c, _, _, _, _, _, hgl⟩ := h'.out.cells
          have hbg : Aside0 (b ≠ g) := ⟨by omega⟩
          have hX : W.heap[w.heap.size]? = some (.cells #[.string op, .nilIface, .nilIface] 50 (0, 0)) := by rw [hW]; exact blk_new _ _
          have hEW : Aside0 (Ev w0 g vs 0 W0 W) := ⟨h'.out.step (by rw [hW]; exact below_alloc (Below.refl _ _) _)⟩
          rw [hb] at hX
          rw [hb]
          have o0 : W.cell? ⟨b, 0, none⟩ = some (.string op) := (blk_cell hX 0).trans rfl
          have o1 : W.cell? ⟨b, 1, none⟩ = some .nilIface := (blk_cell hX 1).trans rfl
          have o2 : W.cell? ⟨b, 2, none⟩ = some .nilIface := (blk_cell hX 2).trans rfl
          have hX' := Aside0.mk hX
          clear hW hX hgl
          go_upto_region 2 with (first
            | (go_at_call 20; (with_reducible refine (hl'.out _ hEW.out).mono ?_); rintro e w1 ⟨rfl, hE1⟩; have hE1' := Aside0.mk (hEW.out.trans hE1); obtain ⟨A1, c1, _, _, a1, _, _, hgl1⟩ := hE1.cells; have hX1 := Aside0.mk (hE1.blk hX'.out hbg.out); have o0' : w1.cell? ⟨b, 0, none⟩ = some (.string op) := (blk_cell hX1.out 0).trans rfl; have o2' : w1.cell? ⟨b, 2, none⟩ = some .nilIface := (blk_cell hX1.out 2).trans rfl; clear hE1)
            | fail)
          clear o0 o1 o2
          go_wp2_with (first
            | (go_at_call 20; (with_reducible refine (hr'.out _ hE1'.out).mono ?_); rintro e w2 ⟨rfl, hE2⟩; have hE2' := Aside0.mk (hE1'.out.trans hE2); obtain ⟨A2, c2, _, _, a2, _, _, hgl2⟩ := hE2.cells; have hX2 := Aside0.mk (hE2.blk hX1.out hbg.out); have o0'' : w2.cell? ⟨b, 0, none⟩ = some (.string op) := (blk_cell hX2.out 0).trans rfl; clear hE2 o0' o2' a1)
            | (go_at_call 33; (with_reducible refine (truth_calls _ _).mono ?_); rintro e w3 ⟨rfl, ⟨m3, hm3⟩⟩; have hb3 := Aside0.mk hm3; clear hm3)
            | (go_at_call 50; (with_reducible refine (bound_calls w0 _ g vs _ W0 hE2'.out).mono ?_); rintro e w3 ⟨rfl, hE3⟩; have hE3' := Aside0.mk hE3; clear hE3)
            | fail)
          go_ret
          obtain ⟨e1, e2⟩ := Prod.mk.inj hR.out
          rw [← e1, ← e2]
          exact ⟨rfl, hE3'.out⟩
        · have dy : (ye != 0) = true := by simpa using hy0
          have hy0' := Aside0.mk hy0
          have hR : Aside0 ((0, ye) = (rn, re)) := ⟨by rw [← hres'.out, if_neg (by rw [hop'.out]; simp [show sPlus ≠ sAnd from by decide, show sPlus ≠ sOr from by decide]), if_pos hy0'.out]⟩
          clear hy0
          go_enter Tryd.func34, Tryd.ntmps34
          go_upto_region 1 with fail
          refine wp_world (fun W hW => ?_)
          obtain ⟨b, hb⟩ : ∃ b, w.heap.size = b := ⟨_, rfl⟩
          obtain ⟨A, c, _, _, _, _, _, hgl⟩ := h'.out.cells
          have hbg : Aside0 (b ≠ g) := ⟨by omega⟩
          have hX : W.heap[w.heap.size]? = some (.cells #[.string op, .nilIface, .nilIface] 50 (0, 0)) := by rw [hW]; exact blk_new _ _
          have hEW : Aside0 (Ev w0 g vs 0 W0 W) := ⟨h'.out.step (by rw [hW]; exact below_alloc (Below.refl _ _) _)⟩
          rw [hb] at hX
          rw [hb]
          have o0 : W.cell? ⟨b, 0, none⟩ = some (.string op) := (blk_cell hX 0).trans rfl
          have o1 : W.cell? ⟨b, 1, none⟩ = some .nilIface := (blk_cell hX 1).trans rfl
          have o2 : W.cell? ⟨b, 2, none⟩ = some .nilIface := (blk_cell hX 2).trans rfl
          have hX' := Aside0.mk hX
          clear hW hX hgl
          go_upto_region 2 with (first
            | (go_at_call 20; (with_reducible refine (hl'.out _ hEW.out).mono ?_); rintro e w1 ⟨rfl, hE1⟩; have hE1' := Aside0.mk (hEW.out.trans hE1); obtain ⟨A1, c1, _, _, a1, _, _, hgl1⟩ := hE1.cells; have hX1 := Aside0.mk (hE1.blk hX'.out hbg.out); have o0' : w1.cell? ⟨b, 0, none⟩ = some (.string op) := (blk_cell hX1.out 0).trans rfl; have o2' : w1.cell? ⟨b, 2, none⟩ = some .nilIface := (blk_cell hX1.out 2).trans rfl; clear hE1)
            | fail)
          clear o0 o1 o2
          go_wp2_with (first
            | (go_at_call 20; (with_reducible refine (hr'.out _ hE1'.out).mono ?_); rintro e w2 ⟨rfl, hE2⟩; have hE2' := Aside0.mk (hE1'.out.trans hE2); obtain ⟨A2, c2, _, _, a2, _, _, hgl2⟩ := hE2.cells; have hX2 := Aside0.mk (hE2.blk hX1.out hbg.out); have o0'' : w2.cell? ⟨b, 0, none⟩ = some (.string op) := (blk_cell hX2.out 0).trans rfl; clear hE2 o0' o2' a1)
            | (go_at_call 33; (with_reducible refine (truth_calls _ _).mono ?_); rintro e w3 ⟨rfl, ⟨m3, hm3⟩⟩; have hb3 := Aside0.mk hm3; clear hm3)
            | (go_at_call 50; (with_reducible refine (bound_calls w0 _ g vs _ W0 hE2'.out).mono ?_); rintro e w3 ⟨rfl, hE3⟩; have hE3' := Aside0.mk hE3; clear hE3)
            | fail)
          go_ret
          obtain ⟨e1, e2⟩ := Prod.mk.inj hR.out
          rw [← e1, ← e2]
          exact ⟨rfl, hE2'.out⟩
      have h1 := Aside0.mk hop
      clear hop
      by_cases hop : op = sMinus
      · have f1 : (op.toList == [43]) = false := by rw [(opF op).p1]; rw [hop]; decide
        have f2 : (op.toList == [45]) = true := by rw [(opF op).p2]; rw [hop]; decide
        have f3 : (op.toList == [42]) = false := by rw [(opF op).p3]; rw [hop]; decide
        have f4 : (op.toList == [60]) = false := by rw [(opF op).p4]; rw [hop]; decide
        have f5 : (op.toList == [60, 61]) = false := by rw [(opF op).p5]; rw [hop]; decide
        have f6 : (op.toList == [61, 61]) = false := by rw [(opF op).p6]; rw [hop]; decide
        have f7 : (op.toList == [33, 61]) = false := by rw [(opF op).p7]; rw [hop]; decide
        have f8 : (op.toList == [38, 38]) = false := by rw [(opF op).p8]; rw [hop]; decide
        have f9 : (op.toList == [124, 124]) = false := by rw [(opF op).p9]; rw [hop]; decide
        have hop' := Aside0.mk hop
        clear hop
        by_cases hy0 : ye = 0
        · subst hy0
          have hR : Aside0 (withB (wrap64 (xn - yn)) = (rn, re)) := ⟨by rw [← hres'.out, if_neg (by rw [hop'.out]; simp [show sMinus ≠ sAnd from by decide, show sMinus ≠ sOr from by decide]), if_neg (by simp)]; unfold arith; rw [hop'.out]; rfl⟩
          go_enter Tryd.func34, Tryd.ntmps34
          go_upto_region 1 with fail
          refine wp_world (fun W hW => ?_)
          obtain ⟨b, hb⟩ : ∃ b, w.heap.size = b := ⟨_, rfl⟩
          obtain ⟨A, c, _, _, _, _, _, hgl⟩ := h'.out.cells
          have hbg : Aside0 (b ≠ g) := ⟨by omega⟩
          have hX : W.heap[w.heap.size]? = some (.cells #[.string op, .nilIface, .nilIface] 50 (0, 0)) := by rw [hW]; exact blk_new _ _
          have hEW : Aside0 (Ev w0 g vs 0 W0 W) := ⟨h'.out.step (by rw [hW]; exact below_alloc (Below.refl _ _) _)⟩
          rw [hb] at hX
          rw [hb]
          have o0 : W.cell? ⟨b, 0, none⟩ = some (.string op) := (blk_cell hX 0).trans rfl
          have o1 : W.cell? ⟨b, 1, none⟩ = some .nilIface := (blk_cell hX 1).trans rfl
          have o2 : W.cell? ⟨b, 2, none⟩ = some .nilIface := (blk_cell hX 2).trans rfl
          have hX' := Aside0.mk hX
          clear hW hX hgl
          go_upto_region 2 with (first
            | (go_at_call 20; (with_reducible refine (hl'.out _ hEW.out).mono ?_); rintro e w1 ⟨rfl, hE1⟩; have hE1' := Aside0.mk (hEW.out.trans hE1); obtain ⟨A1, c1, _, _, a1, _, _, hgl1⟩ := hE1.cells; have hX1 := Aside0.mk (hE1.blk hX'.out hbg.out); have o0' : w1.cell? ⟨b, 0, none⟩ = some (.string op) := (blk_cell hX1.out 0).trans rfl; have o2' : w1.cell? ⟨b, 2, none⟩ = some .nilIface := (blk_cell hX1.out 2).trans rfl; clear hE1)
            | fail)
          clear o0 o1 o2
          go_wp2_with (first
            | (go_at_call 20; (with_reducible refine (hr'.out _ hE1'.out).mono ?_); rintro e w2 ⟨rfl, hE2⟩; have hE2' := Aside0.mk (hE1'.out.trans hE2); obtain ⟨A2, c2, _, _, a2, _, _, hgl2⟩ := hE2.cells; have hX2 := Aside0.mk (hE2.blk hX1.out hbg.out); have o0'' : w2.cell? ⟨b, 0, none⟩ = some (.string op) := (blk_cell hX2.out 0).trans rfl; clear hE2 o0' o2' a1)
            | (go_at_call 33; (with_reducible refine (truth_calls _ _).mono ?_); rintro e w3 ⟨rfl, ⟨m3, hm3⟩⟩; have hb3 := Aside0.mk hm3; clear hm3)
            | (go_at_call 50; (with_reducible refine (bound_calls w0 _ g vs _ W0 hE2'.out).mono ?_); rintro e w3 ⟨rfl, hE3⟩; have hE3' := Aside0.mk hE3; clear hE3)
            | fail)
          go_ret
          obtain ⟨e1, e2⟩ := Prod.mk.inj hR.out
          rw [← e1, ← e2]
          exact ⟨rfl, hE3'.out⟩
        · have dy : (ye != 0) = true := by simpa using hy0
          have hy0' := Aside0.mk hy0
          have hR : Aside0 ((0, ye) = (rn, re)) := ⟨by rw [← hres'.out, if_neg (by rw [hop'.out]; simp [show sMinus ≠ sAnd from by decide, show sMinus ≠ sOr from by decide]), if_pos hy0'.out]⟩
          clear hy0
          go_enter Tryd.func34, Tryd.ntmps34
          go_upto_region 1 with fail
          refine wp_world (fun W hW => ?_)
          obtain ⟨b, hb⟩ : ∃ b, w.heap.size = b := ⟨_, rfl⟩
          obtain ⟨A, c, _, _, _, _, _, hgl⟩ := h'.out.cells
          have hbg : Aside0 (b ≠ g) := ⟨by omega⟩
          have hX : W.heap[w.heap.size]? = some (.cells #[.string op, .nilIface, .nilIface] 50 (0, 0)) := by rw [hW]; exact blk_new _ _
          have hEW : Aside0 (Ev w0 g vs 0 W0 W) := ⟨h'.out.step (by rw [hW]; exact below_alloc (Below.refl _ _) _)⟩
          rw [hb] at hX
          rw [hb]
          have o0 : W.cell? ⟨b, 0, none⟩ = some (.string op) := (blk_cell hX 0).trans rfl
          have o1 : W.cell? ⟨b, 1, none⟩ = some .nilIface := (blk_cell hX 1).trans rfl
          have o2 : W.cell? ⟨b, 2, none⟩ = some .nilIface := (blk_cell hX 2).trans rfl
          have hX' := Aside0.mk hX
          clear hW hX hgl
          go_upto_region 2 with (first
            | (go_at_call 20; (with_reducible refine (hl'.out _ hEW.out).mono ?_); rintro e w1 ⟨rfl, hE1⟩; have hE1' := Aside0.mk (hEW.out.trans hE1); obtain ⟨A1, c1, _, _, a1, _, _, hgl1⟩ := hE1.cells; have hX1 := Aside0.mk (hE1.blk hX'.out hbg.out); have o0' : w1.cell? ⟨b, 0, none⟩ = some (.string op) := (blk_cell hX1.out 0).trans rfl; have o2' : w1.cell? ⟨b, 2, none⟩ = some .nilIface := (blk_cell hX1.out 2).trans rfl; clear hE1)
            | fail)
          clear o0 o1 o2
          go_wp2_with (first
            | (go_at_call 20; (with_reducible refine (hr'.out _ hE1'.out).mono ?_); rintro e w2 ⟨rfl, hE2⟩; have hE2' := Aside0.mk (hE1'.out.trans hE2); obtain ⟨A2, c2, _, _, a2, _, _, hgl2⟩ := hE2.cells; have hX2 := Aside0.mk (hE2.blk hX1.out hbg.out); have o0'' : w2.cell? ⟨b, 0, none⟩ = some (.string op) := (blk_cell hX2.out 0).trans rfl; clear hE2 o0' o2' a1)
            | (go_at_call 33; (with_reducible refine (truth_calls _ _).mono ?_); rintro e w3 ⟨rfl, ⟨m3, hm3⟩⟩; have hb3 := Aside0.mk hm3; clear hm3)
            | (go_at_call 50; (with_reducible refine (bound_calls w0 _ g vs _ W0 hE2'.out).mono ?_); rintro e w3 ⟨rfl, hE3⟩; have hE3' := Aside0.mk hE3; clear hE3)
            | fail)
          go_ret
          obtain ⟨e1, e2⟩ := Prod.mk.inj hR.out
          rw [← e1, ← e2]
          exact ⟨rfl, hE2'.out⟩
      have h2 := Aside0.mk hop
      clear hop
      by_cases hop : op = sMul
      · have f1 : (op.toList == [43]) = false := by rw [(opF op).p1]; rw [hop]; decide
        have f2 : (op.toList == [45]) = false := by rw [(opF op).p2]; rw [hop]; decide
        have f3 : (op.toList == [42]) = true := by rw [(opF op).p3]; rw [hop]; decide
        have f4 : (op.toList == [60]) = false := by rw [(opF op).p4]; rw [hop]; decide
        have f5 : (op.toList == [60, 61]) = false := by rw [(opF op).p5]; rw [hop]; decide
        have f6 : (op.toList == [61, 61]) = false := by rw [(opF op).p6]; rw [hop]; decide
        have f7 : (op.toList == [33, 61]) = false := by rw [(opF op).p7]; rw [hop]; decide
        have f8 : (op.toList == [38, 38]) = false := by rw [(opF op).p8]; rw [hop]; decide
        have f9 : (op.toList == [124, 124]) = false := by rw [(opF op).p9]; rw [hop]; decide
        have hop' := Aside0.mk hop
        clear hop
        by_cases hy0 : ye = 0
        · subst hy0
          have hR : Aside0 (withB (wrap64 (xn * yn)) = (rn, re)) := ⟨by rw [← hres'.out, if_neg (by rw [hop'.out]; simp [show sMul ≠ sAnd from by decide, show sMul ≠ sOr from by decide]), if_neg (by simp)]; unfold arith; rw [hop'.out]; rfl⟩
          go_enter Tryd.func34, Tryd.ntmps34
          go_upto_region 1 with fail
          refine wp_world (fun W hW => ?_)
          obtain ⟨b, hb⟩ : ∃ b, w.heap.size = b := ⟨_, rfl⟩
          obtain ⟨A, c, _, _, _, _, _, hgl⟩ := h'.out.cells
          have hbg : Aside0 (b ≠ g) := ⟨by omega⟩
          have hX : W.heap[w.heap.size]? = some (.cells #[.string op, .nilIface, .nilIface] 50 (0, 0)) := by rw [hW]; exact blk_new _ _
          have hEW : Aside0 (Ev w0 g vs 0 W0 W) := ⟨h'.out.step (by rw [hW]; exact below_alloc (Below.refl _ _) _)⟩
          rw [hb] at hX
          rw [hb]
          have o0 : W.cell? ⟨b, 0, none⟩ = some (.string op) := (blk_cell hX 0).trans rfl
          have o1 : W.cell? ⟨b, 1, none⟩ = some .nilIface := (blk_cell hX 1).trans rfl
          have o2 : W.cell? ⟨b, 2, none⟩ = some .nilIface := (blk_cell hX 2).trans rfl
          have hX' := Aside0.mk hX
          clear hW hX hgl
          go_upto_region 2 with (first
            | (go_at_call 20; (with_reducible refine (hl'.out _ hEW.out).mono ?_); rintro e w1 ⟨rfl, hE1⟩; have hE1' := Aside0.mk (hEW.out.trans hE1); obtain ⟨A1, c1, _, _, a1, _, _, hgl1⟩ := hE1.cells; have hX1 := Aside0.mk (hE1.blk hX'.out hbg.out); have o0' : w1.cell? ⟨b, 0, none⟩ = some (.string op) := (blk_cell hX1.out 0).trans rfl; have o2' : w1.cell? ⟨b, 2, none⟩ = some .nilIface := (blk_cell hX1.out 2).trans rfl; clear hE1)
            | fail)
          clear o0 o1 o2
          go_wp2_with (first
            | (go_at_call 20; (with_reducible refine (hr'.out _ hE1'.out).mono ?_); rintro e w2 ⟨rfl, hE2⟩; have hE2' := Aside0.mk (hE1'.out.trans hE2); obtain ⟨A2, c2, _, _, a2, _, _, hgl2⟩ := hE2.cells; have hX2 := Aside0.mk (hE2.blk hX1.out hbg.out); have o0'' : w2.cell? ⟨b, 0, none⟩ = some (.string op) := (blk_cell hX2.out 0).trans rfl; clear hE2 o0' o2' a1)
            | (go_at_call 33; (with_reducible refine (truth_calls _ _).mono ?_); rintro e w3 ⟨rfl, ⟨m3, hm3⟩⟩; have hb3 := Aside0.mk hm3; clear hm3)
            | (go_at_call 50; (with_reducible refine (bound_calls w0 _ g vs _ W0 hE2'.out).mono ?_); rintro e w3 ⟨rfl, hE3⟩; have hE3' := Aside0.mk hE3; clear hE3)
            | fail)
          go_ret
          obtain ⟨e1, e2⟩ := Prod.mk.inj hR.out
          rw [← e1, ← e2]
          exact ⟨rfl, hE3'.out⟩
        · have dy : (ye != 0) = true := by simpa using hy0
          have hy0' := Aside0.mk hy0
          have hR : Aside0 ((0, ye) = (rn, re)) := ⟨by rw [← hres'.out, if_neg (by rw [hop'.out]; simp [show sMul ≠ sAnd from by decide, show sMul ≠ sOr from by decide]), if_pos hy0'.out]⟩
          clear hy0
          go_enter Tryd.func34, Tryd.ntmps34
          go_upto_region 1 with fail
          refine wp_world (fun W hW => ?_)
          obtain ⟨b, hb⟩ : ∃ b, w.heap.size = b := ⟨_, rfl⟩
          obtain ⟨A, c, _, _, _, _, _, hgl⟩ := h'.out.cells
          have hbg : Aside0 (b ≠ g) := ⟨by omega⟩
          have hX : W.heap[w.heap.size]? = some (.cells #[.string op, .nilIface, .nilIface] 50 (0, 0)) := by rw [hW]; exact blk_new _ _
          have hEW : Aside0 (Ev w0 g vs 0 W0 W) := ⟨h'.out.step (by rw [hW]; exact below_alloc (Below.refl _ _) _)⟩
          rw [hb] at hX
          rw [hb]
          have o0 : W.cell? ⟨b, 0, none⟩ = some (.string op) := (blk_cell hX 0).trans rfl
          have o1 : W.cell? ⟨b, 1, none⟩ = some .nilIface := (blk_cell hX 1).trans rfl
          have o2 : W.cell? ⟨b, 2, none⟩ = some .nilIface := (blk_cell hX 2).trans rfl
          have hX' := Aside0.mk hX
          clear hW hX hgl
          go_upto_region 2 with (first
            | (go_at_call 20; (with_reducible refine (hl'.out _ hEW.out).mono ?_); rintro e w1 ⟨rfl, hE1⟩; have hE1' := Aside0.mk (hEW.out.trans hE1); obtain ⟨A1, c1, _, _, a1, _, _, hgl1⟩ := hE1.cells; have hX1 := Aside0.mk (hE1.blk hX'.out hbg.out); have o0' : w1.cell? ⟨b, 0, none⟩ = some (.string op) := (blk_cell hX1.out 0).trans rfl; have o2' : w1.cell? ⟨b, 2, none⟩ = some .nilIface := (blk_cell hX1.out 2).trans rfl; clear hE1)
            | fail)
          clear o0 o1 o2
          go_wp2_with (first
            | (go_at_call 20; (with_reducible refine (hr'.out _ hE1'.out).mono ?_); rintro e w2 ⟨rfl, hE2⟩; have hE2' := Aside0.mk (hE1'.out.trans hE2); obtain ⟨A2, c2, _, _, a2, _, _, hgl2⟩ := hE2.cells; have hX2 := Aside0.mk (hE2.blk hX1.out hbg.out); have o0'' : w2.cell? ⟨b, 0, none⟩ = some (.string op) := (blk_cell hX2.out 0).trans rfl; clear hE2 o0' o2' a1)
            | (go_at_call 33; (with_reducible refine (truth_calls _ _).mono ?_); rintro e w3 ⟨rfl, ⟨m3, hm3⟩⟩; have hb3 := Aside0.mk hm3; clear hm3)
            | (go_at_call 50; (with_reducible refine (bound_calls w0 _ g vs _ W0 hE2'.out).mono ?_); rintro e w3 ⟨rfl, hE3⟩; have hE3' := Aside0.mk hE3; clear hE3)
            | fail)
          go_ret
          obtain ⟨e1, e2⟩ := Prod.mk.inj hR.out
          rw [← e1, ← e2]
          exact ⟨rfl, hE2'.out⟩
      have h3 := Aside0.mk hop
      clear hop
      by_cases hop : op = sLess
      · have f1 : (op.toList == [43]) = false := by rw [(opF op).p1]; rw [hop]; decide
        have f2 : (op.toList == [45]) = false := by rw [(opF op).p2]; rw [hop]; decide
        have f3 : (op.toList == [42]) = false := by rw [(opF op).p3]; rw [hop]; decide
        have f4 : (op.toList == [60]) = true := by rw [(opF op).p4]; rw [hop]; decide
        have f5 : (op.toList == [60, 61]) = false := by rw [(opF op).p5]; rw [hop]; decide
        have f6 : (op.toList == [61, 61]) = false := by rw [(opF op).p6]; rw [hop]; decide
        have f7 : (op.toList == [33, 61]) = false := by rw [(opF op).p7]; rw [hop]; decide
        have f8 : (op.toList == [38, 38]) = false := by rw [(opF op).p8]; rw [hop]; decide
        have f9 : (op.toList == [124, 124]) = false := by rw [(opF op).p9]; rw [hop]; decide
        have hop' := Aside0.mk hop
        clear hop
        by_cases hy0 : ye = 0
        · subst hy0
          have hR : Aside0 ((tru (decide (xn < yn)), 0) = (rn, re)) := ⟨by rw [← hres'.out, if_neg (by rw [hop'.out]; simp [show sLess ≠ sAnd from by decide, show sLess ≠ sOr from by decide]), if_neg (by simp)]; unfold arith; rw [hop'.out]; rfl⟩
          go_enter Tryd.func34, Tryd.ntmps34
          go_upto_region 1 with fail
          refine wp_world (fun W hW => ?_)
          obtain ⟨b, hb⟩ : ∃ b, w.heap.size = b := ⟨_, rfl⟩
          obtain ⟨A, c, _, _, _, _, _, hgl⟩ := h'.out.cells
          have hbg : Aside0 (b ≠ g) := ⟨by omega⟩
          have hX : W.heap[w.heap.size]? = some (.cells #[.string op, .nilIface, .nilIface] 50 (0, 0)) := by rw [hW]; exact blk_new _ _
          have hEW : Aside0 (Ev w0 g vs 0 W0 W) := ⟨h'.out.step (by rw [hW]; exact below_alloc (Below.refl _ _) _)⟩
          rw [hb] at hX
          rw [hb]
          have o0 : W.cell? ⟨b, 0, none⟩ = some (.string op) := (blk_cell hX 0).trans rfl
          have o1 : W.cell? ⟨b, 1, none⟩ = some .nilIface := (blk_cell hX 1).trans rfl
          have o2 : W.cell? ⟨b, 2, none⟩ = some .nilIface := (blk_cell hX 2).trans rfl
          have hX' := Aside0.mk hX
          clear hW hX hgl
          go_upto_region 2 with (first
            | (go_at_call 20; (with_reducible refine (hl'.out _ hEW.out).mono ?_); rintro e w1 ⟨rfl, hE1⟩; have hE1' := Aside0.mk (hEW.out.trans hE1); obtain ⟨A1, c1, _, _, a1, _, _, hgl1⟩ := hE1.cells; have hX1 := Aside0.mk (hE1.blk hX'.out hbg.out); have o0' : w1.cell? ⟨b, 0, none⟩ = some (.string op) := (blk_cell hX1.out 0).trans rfl; have o2' : w1.cell? ⟨b, 2, none⟩ = some .nilIface := (blk_cell hX1.out 2).trans rfl; clear hE1)
            | fail)
          clear o0 o1 o2
          go_wp2_with (first
            | (go_at_call 20; (with_reducible refine (hr'.out _ hE1'.out).mono ?_); rintro e w2 ⟨rfl, hE2⟩; have hE2' := Aside0.mk (hE1'.out.trans hE2); obtain ⟨A2, c2, _, _, a2, _, _, hgl2⟩ := hE2.cells; have hX2 := Aside0.mk (hE2.blk hX1.out hbg.out); have o0'' : w2.cell? ⟨b, 0, none⟩ = some (.string op) := (blk_cell hX2.out 0).trans rfl; clear hE2 o0' o2' a1)
            | (go_at_call 33; (with_reducible refine (truth_calls _ _).mono ?_); rintro e w3 ⟨rfl, ⟨m3, hm3⟩⟩; have hb3 := Aside0.mk hm3; clear hm3)
            | (go_at_call 50; (with_reducible refine (bound_calls w0 _ g vs _ W0 hE2'.out).mono ?_); rintro e w3 ⟨rfl, hE3⟩; have hE3' := Aside0.mk hE3; clear hE3)
            | fail)
          go_ret
          obtain ⟨e1, e2⟩ := Prod.mk.inj hR.out
          rw [← e1, ← e2]
          exact ⟨rfl, (hE2'.out.step (by rw [hb3.out]; exact pw_below_drewN (Below.refl _ _) _))⟩
        · have dy : (ye != 0) = true := by simpa using hy0
          have hy0' := Aside0.mk hy0
          have hR : Aside0 ((0, ye) = (rn, re)) := ⟨by rw [← hres'.out, if_neg (by rw [hop'.out]; simp [show sLess ≠ sAnd from by decide, show sLess ≠ sOr from by decide]), if_pos hy0'.out]⟩
          clear hy0
          go_enter Tryd.func34, Tryd.ntmps34
          go_upto_region 1 with fail
          refine wp_world (fun W hW => ?_)
          obtain ⟨b, hb⟩ : ∃ b, w.heap.size = b := ⟨_, rfl⟩
          obtain ⟨A, c, _, _, _, _, _, hgl⟩ := h'.out.cells
          have hbg : Aside0 (b ≠ g) := ⟨by omega⟩
          have hX : W.heap[w.heap.size]? = some (.cells #[.string op, .nilIface, .nilIface] 50 (0, 0)) := by rw [hW]; exact blk_new _ _
          have hEW : Aside0 (Ev w0 g vs 0 W0 W) := ⟨h'.out.step (by rw [hW]; exact below_alloc (Below.refl _ _) _)⟩
          rw [hb] at hX
          rw [hb]
          have o0 : W.cell? ⟨b, 0, none⟩ = some (.string op) := (blk_cell hX 0).trans rfl
          have o1 : W.cell? ⟨b, 1, none⟩ = some .nilIface := (blk_cell hX 1).trans rfl
          have o2 : W.cell? ⟨b, 2, none⟩ = some .nilIface := (blk_cell hX 2).trans rfl
          have hX' := Aside0.mk hX
          clear hW hX hgl
          go_upto_region 2 with (first
            | (go_at_call 20; (with_reducible refine (hl'.out _ hEW.out).mono ?_); rintro e w1 ⟨rfl, hE1⟩; have hE1' := Aside0.mk (hEW.out.trans hE1); obtain ⟨A1, c1, _, _, a1, _, _, hgl1⟩ := hE1.cells; have hX1 := Aside0.mk (hE1.blk hX'.out hbg.out); have o0' : w1.cell? ⟨b, 0, none⟩ = some (.string op) := (blk_cell hX1.out 0).trans rfl; have o2' : w1.cell? ⟨b, 2, none⟩ = some .nilIface := (blk_cell hX1.out 2).trans rfl; clear hE1)
            | fail)
          clear o0 o1 o2
          go_wp2_with (first
            | (go_at_call 20; (with_reducible refine (hr'.out _ hE1'.out).mono ?_); rintro e w2 ⟨rfl, hE2⟩; have hE2' := Aside0.mk (hE1'.out.trans hE2); obtain ⟨A2, c2, _, _, a2, _, _, hgl2⟩ := hE2.cells; have hX2 := Aside0.mk (hE2.blk hX1.out hbg.out); have o0'' : w2.cell? ⟨b, 0, none⟩ = some (.string op) := (blk_cell hX2.out 0).trans rfl; clear hE2 o0' o2' a1)
            | (go_at_call 33; (with_reducible refine (truth_calls _ _).mono ?_); rintro e w3 ⟨rfl, ⟨m3, hm3⟩⟩; have hb3 := Aside0.mk hm3; clear hm3)
            | (go_at_call 50; (with_reducible refine (bound_calls w0 _ g vs _ W0 hE2'.out).mono ?_); rintro e w3 ⟨rfl, hE3⟩; have hE3' := Aside0.mk hE3; clear hE3)
            | fail)
          go_ret
          obtain ⟨e1, e2⟩ := Prod.mk.inj hR.out
          rw [← e1, ← e2]
          exact ⟨rfl, hE2'.out⟩
      have h4 := Aside0.mk hop
      clear hop
      by_cases hop : op = sLeq
      · have f1 : (op.toList == [43]) = false := by rw [(opF op).p1]; rw [hop]; decide
        have f2 : (op.toList == [45]) = false := by rw [(opF op).p2]; rw [hop]; decide
        have f3 : (op.toList == [42]) = false := by rw [(opF op).p3]; rw [hop]; decide
        have f4 : (op.toList == [60]) = false := by rw [(opF op).p4]; rw [hop]; decide
        have f5 : (op.toList == [60, 61]) = true := by rw [(opF op).p5]; rw [hop]; decide
        have f6 : (op.toList == [61, 61]) = false := by rw [(opF op).p6]; rw [hop]; decide
        have f7 : (op.toList == [33, 61]) = false := by rw [(opF op).p7]; rw [hop]; decide
        have f8 : (op.toList == [38, 38]) = false := by rw [(opF op).p8]; rw [hop]; decide
        have f9 : (op.toList == [124, 124]) = false := by rw [(opF op).p9]; rw [hop]; decide
        have hop' := Aside0.mk hop
        clear hop
        by_cases hy0 : ye = 0
        · subst hy0
          have hR : Aside0 ((tru (decide (xn ≤ yn)), 0) = (rn, re)) := ⟨by rw [← hres'.out, if_neg (by rw [hop'.out]; simp [show sLeq ≠ sAnd from by decide, show sLeq ≠ sOr from by decide]), if_neg (by simp)]; unfold arith; rw [hop'.out]; rfl⟩
          go_enter Tryd.func34, Tryd.ntmps34
          go_upto_region 1 with fail
          refine wp_world (fun W hW => ?_)
          obtain ⟨b, hb⟩ : ∃ b, w.heap.size = b := ⟨_, rfl⟩
          obtain ⟨A, c, _, _, _, _, _, hgl⟩ := h'.out.cells
          have hbg : Aside0 (b ≠ g) := ⟨by omega⟩
          have hX : W.heap[w.heap.size]? = some (.cells #[.string op, .nilIface, .nilIface] 50 (0, 0)) := by rw [hW]; exact blk_new _ _
          have hEW : Aside0 (Ev w0 g vs 0 W0 W) := ⟨h'.out.step (by rw [hW]; exact below_alloc (Below.refl _ _) _)⟩
          rw [hb] at hX
          rw [hb]
          have o0 : W.cell? ⟨b, 0, none⟩ = some (.string op) := (blk_cell hX 0).trans rfl
          have o1 : W.cell? ⟨b, 1, none⟩ = some .nilIface := (blk_cell hX 1).trans rfl
          have o2 : W.cell? ⟨b, 2, none⟩ = some .nilIface := (blk_cell hX 2).trans rfl
          have hX' := Aside0.mk hX
          clear hW hX hgl
          go_upto_region 2 with (first
            | (go_at_call 20; (with_reducible refine (hl'.out _ hEW.out).mono ?_); rintro e w1 ⟨rfl, hE1⟩; have hE1' := Aside0.mk (hEW.out.trans hE1); obtain ⟨A1, c1, _, _, a1, _, _, hgl1⟩ := hE1.cells; have hX1 := Aside0.mk (hE1.blk hX'.out hbg.out); have o0' : w1.cell? ⟨b, 0, none⟩ = some (.string op) := (blk_cell hX1.out 0).trans rfl; have o2' : w1.cell? ⟨b, 2, none⟩ = some .nilIface := (blk_cell hX1.out 2).trans rfl; clear hE1)
            | fail)
          clear o0 o1 o2
          go_wp2_with (first
            | (go_at_call 20; (with_reducible refine (hr'.out _ hE1'.out).mono ?_); rintro e w2 ⟨rfl, hE2⟩; have hE2' := Aside0.mk (hE1'.out.trans hE2); obtain ⟨A2, c2, _, _, a2, _, _, hgl2⟩ := hE2.cells; have hX2 := Aside0.mk (hE2.blk hX1.out hbg.out); have o0'' : w2.cell? ⟨b, 0, none⟩ = some (.string op) := (blk_cell hX2.out 0).trans rfl; clear hE2 o0' o2' a1)
            | (go_at_call 33; (with_reducible refine (truth_calls _ _).mono ?_); rintro e w3 ⟨rfl, ⟨m3, hm3⟩⟩; have hb3 := Aside0.mk hm3; clear hm3)
            | (go_at_call 50; (with_reducible refine (bound_calls w0 _ g vs _ W0 hE2'.out).mono ?_); rintro e w3 ⟨rfl, hE3⟩; have hE3' := Aside0.mk hE3; clear hE3)
            | fail)
          go_ret
          obtain ⟨e1, e2⟩ := Prod.mk.inj hR.out
          rw [← e1, ← e2]
          exact ⟨rfl, (hE2'.out.step (by rw [hb3.out]; exact pw_below_drewN (Below.refl _ _) _))⟩
        · have dy : (ye != 0) = true := by simpa using hy0
          have hy0' := Aside0.mk hy0
          have hR : Aside0 ((0, ye) = (rn, re)) := ⟨by rw [← hres'.out, if_neg (by rw [hop'.out]; simp [show sLeq ≠ sAnd from by decide, show sLeq ≠ sOr from by decide]), if_pos hy0'.out]⟩
          clear hy0
          go_enter Tryd.func34, Tryd.ntmps34
          go_upto_region 1 with fail
          refine wp_world (fun W hW => ?_)
          obtain ⟨b, hb⟩ : ∃ b, w.heap.size = b := ⟨_, rfl⟩
          obtain ⟨A, c, _, _, _, _, _, hgl⟩ := h'.out.cells
          have hbg : Aside0 (b ≠ g) := ⟨by omega⟩
          have hX : W.heap[w.heap.size]? = some (.cells #[.string op, .nilIface, .nilIface] 50 (0, 0)) := by rw [hW]; exact blk_new _ _
          have hEW : Aside0 (Ev w0 g vs 0 W0 W) := ⟨h'.out.step (by rw [hW]; exact below_alloc (Below.refl _ _) _)⟩
          rw [hb] at hX
          rw [hb]
          have o0 : W.cell? ⟨b, 0, none⟩ = some (.string op) := (blk_cell hX 0).trans rfl
          have o1 : W.cell? ⟨b, 1, none⟩ = some .nilIface := (blk_cell hX 1).trans rfl
          have o2 : W.cell? ⟨b, 2, none⟩ = some .nilIface := (blk_cell hX 2).trans rfl
          have hX' := Aside0.mk hX
          clear hW hX hgl
          go_upto_region 2 with (first
            | (go_at_call 20; (with_reducible refine (hl'.out _ hEW.out).mono ?_); rintro e w1 ⟨rfl, hE1⟩; have hE1' := Aside0.mk (hEW.out.trans hE1); obtain ⟨A1, c1, _, _, a1, _, _, hgl1⟩ := hE1.cells; have hX1 := Aside0.mk (hE1.blk hX'.out hbg.out); have o0' : w1.cell? ⟨b, 0, none⟩ = some (.string op) := (blk_cell hX1.out 0).trans rfl; have o2' : w1.cell? ⟨b, 2, none⟩ = some .nilIface := (blk_cell hX1.out 2).trans rfl; clear hE1)
            | fail)
          clear o0 o1 o2
          go_wp2_with (first
            | (go_at_call 20; (with_reducible refine (hr'.out _ hE1'.out).mono ?_); rintro e w2 ⟨rfl, hE2⟩; have hE2' := Aside0.mk (hE1'.out.trans hE2); obtain ⟨A2, c2, _, _, a2, _, _, hgl2⟩ := hE2.cells; have hX2 := Aside0.mk (hE2.blk hX1.out hbg.out); have o0'' : w2.cell? ⟨b, 0, none⟩ = some (.string op) := (blk_cell hX2.out 0).trans rfl; clear hE2 o0' o2' a1)
            | (go_at_call 33; (with_reducible refine (truth_calls _ _).mono ?_); rintro e w3 ⟨rfl, ⟨m3, hm3⟩⟩; have hb3 := Aside0.mk hm3; clear hm3)
            | (go_at_call 50; (with_reducible refine (bound_calls w0 _ g vs _ W0 hE2'.out).mono ?_); rintro e w3 ⟨rfl, hE3⟩; have hE3' := Aside0.mk hE3; clear hE3)
            | fail)
          go_ret
          obtain ⟨e1, e2⟩ := Prod.mk.inj hR.out
          rw [← e1, ← e2]
          exact ⟨rfl, hE2'.out⟩
      have h5 := Aside0.mk hop
      clear hop
      by_cases hop : op = sEq
      · have f1 : (op.toList == [43]) = false := by rw [(opF op).p1]; rw [hop]; decide
        have f2 : (op.toList == [45]) = false := by rw [(opF op).p2]; rw [hop]; decide
        have f3 : (op.toList == [42]) = false := by rw [(opF op).p3]; rw [hop]; decide
        have f4 : (op.toList == [60]) = false := by rw [(opF op).p4]; rw [hop]; decide
        have f5 : (op.toList == [60, 61]) = false := by rw [(opF op).p5]; rw [hop]; decide
        have f6 : (op.toList == [61, 61]) = true := by rw [(opF op).p6]; rw [hop]; decide
        have f7 : (op.toList == [33, 61]) = false := by rw [(opF op).p7]; rw [hop]; decide
        have f8 : (op.toList == [38, 38]) = false := by rw [(opF op).p8]; rw [hop]; decide
        have f9 : (op.toList == [124, 124]) = false := by rw [(opF op).p9]; rw [hop]; decide
        have hop' := Aside0.mk hop
        clear hop
        by_cases hy0 : ye = 0
        · subst hy0
          have hR : Aside0 ((tru (xn == yn), 0) = (rn, re)) := ⟨by rw [← hres'.out, if_neg (by rw [hop'.out]; simp [show sEq ≠ sAnd from by decide, show sEq ≠ sOr from by decide]), if_neg (by simp)]; unfold arith; rw [hop'.out]; rfl⟩
          go_enter Tryd.func34, Tryd.ntmps34
          go_upto_region 1 with fail
          refine wp_world (fun W hW => ?_)
          obtain ⟨b, hb⟩ : ∃ b, w.heap.size = b := ⟨_, rfl⟩
          obtain ⟨A, c, _, _, _, _, _, hgl⟩ := h'.out.cells
          have hbg : Aside0 (b ≠ g) := ⟨by omega⟩
          have hX : W.heap[w.heap.size]? = some (.cells #[.string op, .nilIface, .nilIface] 50 (0, 0)) := by rw [hW]; exact blk_new _ _
          have hEW : Aside0 (Ev w0 g vs 0 W0 W) := ⟨h'.out.step (by rw [hW]; exact below_alloc (Below.refl _ _) _)⟩
          rw [hb] at hX
          rw [hb]
          have o0 : W.cell? ⟨b, 0, none⟩ = some (.string op) := (blk_cell hX 0).trans rfl
          have o1 : W.cell? ⟨b, 1, none⟩ = some .nilIface := (blk_cell hX 1).trans rfl
          have o2 : W.cell? ⟨b, 2, none⟩ = some .nilIface := (blk_cell hX 2).trans rfl
          have hX' := Aside0.mk hX
          clear hW hX hgl
          go_upto_region 2 with (first
            | (go_at_call 20; (with_reducible refine (hl'.out _ hEW.out).mono ?_); rintro e w1 ⟨rfl, hE1⟩; have hE1' := Aside0.mk (hEW.out.trans hE1); obtain ⟨A1, c1, _, _, a1, _, _, hgl1⟩ := hE1.cells; have hX1 := Aside0.mk (hE1.blk hX'.out hbg.out); have o0' : w1.cell? ⟨b, 0, none⟩ = some (.string op) := (blk_cell hX1.out 0).trans rfl; have o2' : w1.cell? ⟨b, 2, none⟩ = some .nilIface := (blk_cell hX1.out 2).trans rfl; clear hE1)
            | fail)
          clear o0 o1 o2
          go_wp2_with (first
            | (go_at_call 20; (with_reducible refine (hr'.out _ hE1'.out).mono ?_); rintro e w2 ⟨rfl, hE2⟩; have hE2' := Aside0.mk (hE1'.out.trans hE2); obtain ⟨A2, c2, _, _, a2, _, _, hgl2⟩ := hE2.cells; have hX2 := Aside0.mk (hE2.blk hX1.out hbg.out); have o0'' : w2.cell? ⟨b, 0, none⟩ = some (.string op) := (blk_cell hX2.out 0).trans rfl; clear hE2 o0' o2' a1)
            | (go_at_call 33; (with_reducible refine (truth_calls _ _).mono ?_); rintro e w3 ⟨rfl, ⟨m3, hm3⟩⟩; have hb3 := Aside0.mk hm3; clear hm3)
            | (go_at_call 50; (with_reducible refine (bound_calls w0 _ g vs _ W0 hE2'.out).mono ?_); rintro e w3 ⟨rfl, hE3⟩; have hE3' := Aside0.mk hE3; clear hE3)
            | fail)
          go_ret
          obtain ⟨e1, e2⟩ := Prod.mk.inj hR.out
          rw [← e1, ← e2]
          exact ⟨rfl, (hE2'.out.step (by rw [hb3.out]; exact pw_below_drewN (Below.refl _ _) _))⟩
        · have dy : (ye != 0) = true := by simpa using hy0
          have hy0' := Aside0.mk hy0
          have hR : Aside0 ((0, ye) = (rn, re)) := ⟨by rw [← hres'.out, if_neg (by rw [hop'.out]; simp [show sEq ≠ sAnd from by decide, show sEq ≠ sOr from by decide]), if_pos hy0'.out]⟩
          clear hy0
          go_enter Tryd.func34, Tryd.ntmps34
          go_upto_region 1 with fail
          refine wp_world (fun W hW => ?_)
          obtain ⟨b, hb⟩ : ∃ b, w.heap.size = b := ⟨_, rfl⟩
          obtain ⟨A, c, _, _, _, _, _, hgl⟩ := h'.out.cells
          have hbg : Aside0 (b ≠ g) := ⟨by omega⟩
          have hX : W.heap[w.heap.size]? = some (.cells #[.string op, .nilIface, .nilIface] 50 (0, 0)) := by rw [hW]; exact blk_new _ _
          have hEW : Aside0 (Ev w0 g vs 0 W0 W) := ⟨h'.out.step (by rw [hW]; exact below_alloc (Below.refl _ _) _)⟩
          rw [hb] at hX
          rw [hb]
          have o0 : W.cell? ⟨b, 0, none⟩ = some (.string op) := (blk_cell hX 0).trans rfl
          have o1 : W.cell? ⟨b, 1, none⟩ = some .nilIface := (blk_cell hX 1).trans rfl
          have o2 : W.cell? ⟨b, 2, none⟩ = some .nilIface := (blk_cell hX 2).trans rfl
          have hX' := Aside0.mk hX
          clear hW hX hgl
          go_upto_region 2 with (first
            | (go_at_call 20; (with_reducible refine (hl'.out _ hEW.out).mono ?_); rintro e w1 ⟨rfl, hE1⟩; have hE1' := Aside0.mk (hEW.out.trans hE1); obtain ⟨A1, c1, _, _, a1, _, _, hgl1⟩ := hE1.cells; have hX1 := Aside0.mk (hE1.blk hX'.out hbg.out); have o0' : w1.cell? ⟨b, 0, none⟩ = some (.string op) := (blk_cell hX1.out 0).trans rfl; have o2' : w1.cell? ⟨b, 2, none⟩ = some .nilIface := (blk_cell hX1.out 2).trans rfl; clear hE1)
            | fail)
          clear o0 o1 o2
          go_wp2_with (first
            | (go_at_call 20; (with_reducible refine (hr'.out _ hE1'.out).mono ?_); rintro e w2 ⟨rfl, hE2⟩; have hE2' := Aside0.mk (hE1'.out.trans hE2); obtain ⟨A2, c2, _, _, a2, _, _, hgl2⟩ := hE2.cells; have hX2 := Aside0.mk (hE2.blk hX1.out hbg.out); have o0'' : w2.cell? ⟨b, 0, none⟩ = some (.string op) := (blk_cell hX2.out 0).trans rfl; clear hE2 o0' o2' a1)
            | (go_at_call 33; (with_reducible refine (truth_calls _ _).mono ?_); rintro e w3 ⟨rfl, ⟨m3, hm3⟩⟩; have hb3 := Aside0.mk hm3; clear hm3)
            | (go_at_call 50; (with_reducible refine (bound_calls w0 _ g vs _ W0 hE2'.out).mono ?_); rintro e w3 ⟨rfl, hE3⟩; have hE3' := Aside0.mk hE3; clear hE3)
            | fail)
          go_ret
          obtain ⟨e1, e2⟩ := Prod.mk.inj hR.out
          rw [← e1, ← e2]
          exact ⟨rfl, hE2'.out⟩
      have h6 := Aside0.mk hop
      clear hop
      by_cases hop : op = sNe
      · have f1 : (op.toList == [43]) = false := by rw [(opF op).p1]; rw [hop]; decide
        have f2 : (op.toList == [45]) = false := by rw [(opF op).p2]; rw [hop]; decide
        have f3 : (op.toList == [42]) = false := by rw [(opF op).p3]; rw [hop]; decide
        have f4 : (op.toList == [60]) = false := by rw [(opF op).p4]; rw [hop]; decide
        have f5 : (op.toList == [60, 61]) = false := by rw [(opF op).p5]; rw [hop]; decide
        have f6 : (op.toList == [61, 61]) = false := by rw [(opF op).p6]; rw [hop]; decide
        have f7 : (op.toList == [33, 61]) = true := by rw [(opF op).p7]; rw [hop]; decide
        have f8 : (op.toList == [38, 38]) = false := by rw [(opF op).p8]; rw [hop]; decide
        have f9 : (op.toList == [124, 124]) = false := by rw [(opF op).p9]; rw [hop]; decide
        have hop' := Aside0.mk hop
        clear hop
        by_cases hy0 : ye = 0
        · subst hy0
          have hR : Aside0 ((tru (xn != yn), 0) = (rn, re)) := ⟨by rw [← hres'.out, if_neg (by rw [hop'.out]; simp [show sNe ≠ sAnd from by decide, show sNe ≠ sOr from by decide]), if_neg (by simp)]; unfold arith; rw [hop'.out]; rfl⟩
          go_enter Tryd.func34, Tryd.ntmps34
          go_upto_region 1 with fail
          refine wp_world (fun W hW => ?_)
          obtain ⟨b, hb⟩ : ∃ b, w.heap.size = b := ⟨_, rfl⟩
          obtain ⟨A, c, _, _, _, _, _, hgl⟩ := h'.out.cells
          have hbg : Aside0 (b ≠ g) := ⟨by omega⟩
          have hX : W.heap[w.heap.size]? = some (.cells #[.string op, .nilIface, .nilIface] 50 (0, 0)) := by rw [hW]; exact blk_new _ _
          have hEW : Aside0 (Ev w0 g vs 0 W0 W) := ⟨h'.out.step (by rw [hW]; exact below_alloc (Below.refl _ _) _)⟩
          rw [hb] at hX
          rw [hb]
          have o0 : W.cell? ⟨b, 0, none⟩ = some (.string op) := (blk_cell hX 0).trans rfl
          have o1 : W.cell? ⟨b, 1, none⟩ = some .nilIface := (blk_cell hX 1).trans rfl
          have o2 : W.cell? ⟨b, 2, none⟩ = some .nilIface := (blk_cell hX 2).trans rfl
          have hX' := Aside0.mk hX
          clear hW hX hgl
          go_upto_region 2 with (first
            | (go_at_call 20; (with_reducible refine (hl'.out _ hEW.out).mono ?_); rintro e w1 ⟨rfl, hE1⟩; have hE1' := Aside0.mk (hEW.out.trans hE1); obtain ⟨A1, c1, _, _, a1, _, _, hgl1⟩ := hE1.cells; have hX1 := Aside0.mk (hE1.blk hX'.out hbg.out); have o0' : w1.cell? ⟨b, 0, none⟩ = some (.string op) := (blk_cell hX1.out 0).trans rfl; have o2' : w1.cell? ⟨b, 2, none⟩ = some .nilIface := (blk_cell hX1.out 2).trans rfl; clear hE1)
            | fail)
          clear o0 o1 o2
          go_wp2_with (first
            | (go_at_call 20; (with_reducible refine (hr'.out _ hE1'.out).mono ?_); rintro e w2 ⟨rfl, hE2⟩; have hE2' := Aside0.mk (hE1'.out.trans hE2); obtain ⟨A2, c2, _, _, a2, _, _, hgl2⟩ := hE2.cells; have hX2 := Aside0.mk (hE2.blk hX1.out hbg.out); have o0'' : w2.cell? ⟨b, 0, none⟩ = some (.string op) := (blk_cell hX2.out 0).trans rfl; clear hE2 o0' o2' a1)
            | (go_at_call 33; (with_reducible refine (truth_calls _ _).mono ?_); rintro e w3 ⟨rfl, ⟨m3, hm3⟩⟩; have hb3 := Aside0.mk hm3; clear hm3)
            | (go_at_call 50; (with_reducible refine (bound_calls w0 _ g vs _ W0 hE2'.out).mono ?_); rintro e w3 ⟨rfl, hE3⟩; have hE3' := Aside0.mk hE3; clear hE3)
            | fail)
          go_ret
          obtain ⟨e1, e2⟩ := Prod.mk.inj hR.out
          rw [← e1, ← e2]
          exact ⟨rfl, (hE2'.out.step (by rw [hb3.out]; exact pw_below_drewN (Below.refl _ _) _))⟩
        · have dy : (ye != 0) = true := by simpa using hy0
          have hy0' := Aside0.mk hy0
          have hR : Aside0 ((0, ye) = (rn, re)) := ⟨by rw [← hres'.out, if_neg (by rw [hop'.out]; simp [show sNe ≠ sAnd from by decide, show sNe ≠ sOr from by decide]), if_pos hy0'.out]⟩
          clear hy0
          go_enter Tryd.func34, Tryd.ntmps34
          go_upto_region 1 with fail
          refine wp_world (fun W hW => ?_)
          obtain ⟨b, hb⟩ : ∃ b, w.heap.size = b := ⟨_, rfl⟩
          obtain ⟨A, c, _, _, _, _, _, hgl⟩ := h'.out.cells
          have hbg : Aside0 (b ≠ g) := ⟨by omega⟩
          have hX : W.heap[w.heap.size]? = some (.cells #[.string op, .nilIface, .nilIface] 50 (0, 0)) := by rw [hW]; exact blk_new _ _
          have hEW : Aside0 (Ev w0 g vs 0 W0 W) := ⟨h'.out.step (by rw [hW]; exact below_alloc (Below.refl _ _) _)⟩
          rw [hb] at hX
          rw [hb]
          have o0 : W.cell? ⟨b, 0, none⟩ = some (.string op) := (blk_cell hX 0).trans rfl
          have o1 : W.cell? ⟨b, 1, none⟩ = some .nilIface := (blk_cell hX 1).trans rfl
          have o2 : W.cell? ⟨b, 2, none⟩ = some .nilIface := (blk_cell hX 2).trans rfl
          have hX' := Aside0.mk hX
          clear hW hX hgl
          go_upto_region 2 with (first
            | (go_at_call 20; (with_reducible refine (hl'.out _ hEW.out).mono ?_); rintro e w1 ⟨rfl, hE1⟩; have hE1' := Aside0.mk (hEW.out.trans hE1); obtain ⟨A1, c1, _, _, a1, _, _, hgl1⟩ := hE1.cells; have hX1 := Aside0.mk (hE1.blk hX'.out hbg.out); have o0' : w1.cell? ⟨b, 0, none⟩ = some (.string op) := (blk_cell hX1.out 0).trans rfl; have o2' : w1.cell? ⟨b, 2, none⟩ = some .nilIface := (blk_cell hX1.out 2).trans rfl; clear hE1)
            | fail)
          clear o0 o1 o2
          go_wp2_with (first
            | (go_at_call 20; (with_reducible refine (hr'.out _ hE1'.out).mono ?_); rintro e w2 ⟨rfl, hE2⟩; have hE2' := Aside0.mk (hE1'.out.trans hE2); obtain ⟨A2, c2, _, _, a2, _, _, hgl2⟩ := hE2.cells; have hX2 := Aside0.mk (hE2.blk hX1.out hbg.out); have o0'' : w2.cell? ⟨b, 0, none⟩ = some (.string op) := (blk_cell hX2.out 0).trans rfl; clear hE2 o0' o2' a1)
            | (go_at_call 33; (with_reducible refine (truth_calls _ _).mono ?_); rintro e w3 ⟨rfl, ⟨m3, hm3⟩⟩; have hb3 := Aside0.mk hm3; clear hm3)
            | (go_at_call 50; (with_reducible refine (bound_calls w0 _ g vs _ W0 hE2'.out).mono ?_); rintro e w3 ⟨rfl, hE3⟩; have hE3' := Aside0.mk hE3; clear hE3)
            | fail)
          go_ret
          obtain ⟨e1, e2⟩ := Prod.mk.inj hR.out
          rw [← e1, ← e2]
          exact ⟨rfl, hE2'.out⟩
      have h7 := Aside0.mk hop
      clear hop
      by_cases hop : op = sAnd
      · have f1 : (op.toList == [43]) = false := by rw [(opF op).p1]; rw [hop]; decide
        have f2 : (op.toList == [45]) = false := by rw [(opF op).p2]; rw [hop]; decide
        have f3 : (op.toList == [42]) = false := by rw [(opF op).p3]; rw [hop]; decide
        have f4 : (op.toList == [60]) = false := by rw [(opF op).p4]; rw [hop]; decide
        have f5 : (op.toList == [60, 61]) = false := by rw [(opF op).p5]; rw [hop]; decide
        have f6 : (op.toList == [61, 61]) = false := by rw [(opF op).p6]; rw [hop]; decide
        have f7 : (op.toList == [33, 61]) = false := by rw [(opF op).p7]; rw [hop]; decide
        have f8 : (op.toList == [38, 38]) = true := by rw [(opF op).p8]; rw [hop]; decide
        have f9 : (op.toList == [124, 124]) = false := by rw [(opF op).p9]; rw [hop]; decide
        have hop' := Aside0.mk hop
        clear hop
        by_cases hq : xn = 0
        · subst hq
          have hR : Aside0 ((tru ((0 : Int) != 0), 0) = (rn, re)) := ⟨by rw [← hres'.out, if_pos (Or.inr (Or.inl ⟨hop'.out, rfl⟩))]⟩
          go_enter Tryd.func34, Tryd.ntmps34
          go_upto_region 1 with fail
          refine wp_world (fun W hW => ?_)
          obtain ⟨b, hb⟩ : ∃ b, w.heap.size = b := ⟨_, rfl⟩
          obtain ⟨A, c, _, _, _, _, _, hgl⟩ := h'.out.cells
          have hbg : Aside0 (b ≠ g) := ⟨by omega⟩
          have hX : W.heap[w.heap.size]? = some (.cells #[.string op, .nilIface, .nilIface] 50 (0, 0)) := by rw [hW]; exact blk_new _ _
          have hEW : Aside0 (Ev w0 g vs 0 W0 W) := ⟨h'.out.step (by rw [hW]; exact below_alloc (Below.refl _ _) _)⟩
          rw [hb] at hX
          rw [hb]
          have o0 : W.cell? ⟨b, 0, none⟩ = some (.string op) := (blk_cell hX 0).trans rfl
          have o1 : W.cell? ⟨b, 1, none⟩ = some .nilIface := (blk_cell hX 1).trans rfl
          have o2 : W.cell? ⟨b, 2, none⟩ = some .nilIface := (blk_cell hX 2).trans rfl
          have hX' := Aside0.mk hX
          clear hW hX hgl
          go_upto_region 2 with (first
            | (go_at_call 20; (with_reducible refine (hl'.out _ hEW.out).mono ?_); rintro e w1 ⟨rfl, hE1⟩; have hE1' := Aside0.mk (hEW.out.trans hE1); obtain ⟨A1, c1, _, _, a1, _, _, hgl1⟩ := hE1.cells; have hX1 := Aside0.mk (hE1.blk hX'.out hbg.out); have o0' : w1.cell? ⟨b, 0, none⟩ = some (.string op) := (blk_cell hX1.out 0).trans rfl; have o2' : w1.cell? ⟨b, 2, none⟩ = some .nilIface := (blk_cell hX1.out 2).trans rfl; clear hE1)
            | fail)
          clear o0 o1 o2
          go_wp2_with (first
            | (go_at_call 20; (with_reducible refine (hr'.out _ hE1'.out).mono ?_); rintro e w2 ⟨rfl, hE2⟩; have hE2' := Aside0.mk (hE1'.out.trans hE2); obtain ⟨A2, c2, _, _, a2, _, _, hgl2⟩ := hE2.cells; have hX2 := Aside0.mk (hE2.blk hX1.out hbg.out); have o0'' : w2.cell? ⟨b, 0, none⟩ = some (.string op) := (blk_cell hX2.out 0).trans rfl; clear hE2 o0' o2' a1)
            | (go_at_call 33; (with_reducible refine (truth_calls _ _).mono ?_); rintro e w3 ⟨rfl, ⟨m3, hm3⟩⟩; have hb3 := Aside0.mk hm3; clear hm3)
            | (go_at_call 50; (with_reducible refine (bound_calls w0 _ g vs _ W0 hE2'.out).mono ?_); rintro e w3 ⟨rfl, hE3⟩; have hE3' := Aside0.mk hE3; clear hE3)
            | fail)
          go_ret
          obtain ⟨e1, e2⟩ := Prod.mk.inj hR.out
          rw [← e1, ← e2]
          exact ⟨rfl, (hE1'.out.step (by rw [hb3.out]; exact pw_below_drewN (Below.refl _ _) _))⟩
        · have dq : (xn == 0) = false := by simpa using hq
          have hq' := Aside0.mk hq
          clear hq
          by_cases hy0 : ye = 0
          · subst hy0
            have hR : Aside0 ((tru (yn != 0), 0) = (rn, re)) := ⟨by rw [← hres'.out, if_neg (by rw [hop'.out]; simp [hq'.out, show sAnd ≠ sOr from by decide]), if_neg (by simp)]; unfold arith; rw [hop'.out]; rfl⟩
            go_enter Tryd.func34, Tryd.ntmps34
            go_upto_region 1 with fail
            refine wp_world (fun W hW => ?_)
            obtain ⟨b, hb⟩ : ∃ b, w.heap.size = b := ⟨_, rfl⟩
            obtain ⟨A, c, _, _, _, _, _, hgl⟩ := h'.out.cells
            have hbg : Aside0 (b ≠ g) := ⟨by omega⟩
            have hX : W.heap[w.heap.size]? = some (.cells #[.string op, .nilIface, .nilIface] 50 (0, 0)) := by rw [hW]; exact blk_new _ _
            have hEW : Aside0 (Ev w0 g vs 0 W0 W) := ⟨h'.out.step (by rw [hW]; exact below_alloc (Below.refl _ _) _)⟩
            rw [hb] at hX
            rw [hb]
            have o0 : W.cell? ⟨b, 0, none⟩ = some (.string op) := (blk_cell hX 0).trans rfl
            have o1 : W.cell? ⟨b, 1, none⟩ = some .nilIface := (blk_cell hX 1).trans rfl
            have o2 : W.cell? ⟨b, 2, none⟩ = some .nilIface := (blk_cell hX 2).trans rfl
            have hX' := Aside0.mk hX
            clear hW hX hgl
            go_upto_region 2 with (first
              | (go_at_call 20; (with_reducible refine (hl'.out _ hEW.out).mono ?_); rintro e w1 ⟨rfl, hE1⟩; have hE1' := Aside0.mk (hEW.out.trans hE1); obtain ⟨A1, c1, _, _, a1, _, _, hgl1⟩ := hE1.cells; have hX1 := Aside0.mk (hE1.blk hX'.out hbg.out); have o0' : w1.cell? ⟨b, 0, none⟩ = some (.string op) := (blk_cell hX1.out 0).trans rfl; have o2' : w1.cell? ⟨b, 2, none⟩ = some .nilIface := (blk_cell hX1.out 2).trans rfl; clear hE1)
              | fail)
            clear o0 o1 o2
            go_wp2_with (first
              | (go_at_call 20; (with_reducible refine (hr'.out _ hE1'.out).mono ?_); rintro e w2 ⟨rfl, hE2⟩; have hE2' := Aside0.mk (hE1'.out.trans hE2); obtain ⟨A2, c2, _, _, a2, _, _, hgl2⟩ := hE2.cells; have hX2 := Aside0.mk (hE2.blk hX1.out hbg.out); have o0'' : w2.cell? ⟨b, 0, none⟩ = some (.string op) := (blk_cell hX2.out 0).trans rfl; clear hE2 o0' o2' a1)
              | (go_at_call 33; (with_reducible refine (truth_calls _ _).mono ?_); rintro e w3 ⟨rfl, ⟨m3, hm3⟩⟩; have hb3 := Aside0.mk hm3; clear hm3)
              | (go_at_call 50; (with_reducible refine (bound_calls w0 _ g vs _ W0 hE2'.out).mono ?_); rintro e w3 ⟨rfl, hE3⟩; have hE3' := Aside0.mk hE3; clear hE3)
              | fail)
            go_ret
            obtain ⟨e1, e2⟩ := Prod.mk.inj hR.out
            rw [← e1, ← e2]
            exact ⟨rfl, (hE2'.out.step (by rw [hb3.out]; exact pw_below_drewN (Below.refl _ _) _))⟩
          · have dy : (ye != 0) = true := by simpa using hy0
            have hy0' := Aside0.mk hy0
            have hR : Aside0 ((0, ye) = (rn, re)) := ⟨by rw [← hres'.out, if_neg (by rw [hop'.out]; simp [hq'.out, show sAnd ≠ sOr from by decide]), if_pos hy0'.out]⟩
            clear hy0
            go_enter Tryd.func34, Tryd.ntmps34
            go_upto_region 1 with fail
            refine wp_world (fun W hW => ?_)
            obtain ⟨b, hb⟩ : ∃ b, w.heap.size = b := ⟨_, rfl⟩
            obtain ⟨A, c, _, _, _, _, _, hgl⟩ := h'.out.cells
            have hbg : Aside0 (b ≠ g) := ⟨by omega⟩
            have hX : W.heap[w.heap.size]? = some (.cells #[.string op, .nilIface, .nilIface] 50 (0, 0)) := by rw [hW]; exact blk_new _ _
            have hEW : Aside0 (Ev w0 g vs 0 W0 W) := ⟨h'.out.step (by rw [hW]; exact below_alloc (Below.refl _ _) _)⟩
            rw [hb] at hX
            rw [hb]
            have o0 : W.cell? ⟨b, 0, none⟩ = some (.string op) := (blk_cell hX 0).trans rfl
            have o1 : W.cell? ⟨b, 1, none⟩ = some .nilIface := (blk_cell hX 1).trans rfl
            have o2 : W.cell? ⟨b, 2, none⟩ = some .nilIface := (blk_cell hX 2).trans rfl
            have hX' := Aside0.mk hX
            clear hW hX hgl
            go_upto_region 2 with (first
              | (go_at_call 20; (with_reducible refine (hl'.out _ hEW.out).mono ?_); rintro e w1 ⟨rfl, hE1⟩; have hE1' := Aside0.mk (hEW.out.trans hE1); obtain ⟨A1, c1, _, _, a1, _, _, hgl1⟩ := hE1.cells; have hX1 := Aside0.mk (hE1.blk hX'.out hbg.out); have o0' : w1.cell? ⟨b, 0, none⟩ = some (.string op) := (blk_cell hX1.out 0).trans rfl; have o2' : w1.cell? ⟨b, 2, none⟩ = some .nilIface := (blk_cell hX1.out 2).trans rfl; clear hE1)
              | fail)
            clear o0 o1 o2
            go_wp2_with (first
              | (go_at_call 20; (with_reducible refine (hr'.out _ hE1'.out).mono ?_); rintro e w2 ⟨rfl, hE2⟩; have hE2' := Aside0.mk (hE1'.out.trans hE2); obtain ⟨A2, c2, _, _, a2, _, _, hgl2⟩ := hE2.cells; have hX2 := Aside0.mk (hE2.blk hX1.out hbg.out); have o0'' : w2.cell? ⟨b, 0, none⟩ = some (.string op) := (blk_cell hX2.out 0).trans rfl; clear hE2 o0' o2' a1)
              | (go_at_call 33; (with_reducible refine (truth_calls _ _).mono ?_); rintro e w3 ⟨rfl, ⟨m3, hm3⟩⟩; have hb3 := Aside0.mk hm3; clear hm3)
              | (go_at_call 50; (with_reducible refine (bound_calls w0 _ g vs _ W0 hE2'.out).mono ?_); rintro e w3 ⟨rfl, hE3⟩; have hE3' := Aside0.mk hE3; clear hE3)
              | fail)
            go_ret
            obtain ⟨e1, e2⟩ := Prod.mk.inj hR.out
            rw [← e1, ← e2]
            exact ⟨rfl, hE2'.out⟩
      have h8 := Aside0.mk hop
      clear hop
      by_cases hop : op = sOr
      · have f1 : (op.toList == [43]) = false := by rw [(opF op).p1]; rw [hop]; decide
        have f2 : (op.toList == [45]) = false := by rw [(opF op).p2]; rw [hop]; decide
        have f3 : (op.toList == [42]) = false := by rw [(opF op).p3]; rw [hop]; decide
        have f4 : (op.toList == [60]) = false := by rw [(opF op).p4]; rw [hop]; decide
        have f5 : (op.toList == [60, 61]) = false := by rw [(opF op).p5]; rw [hop]; decide
        have f6 : (op.toList == [61, 61]) = false := by rw [(opF op).p6]; rw [hop]; decide
        have f7 : (op.toList == [33, 61]) = false := by rw [(opF op).p7]; rw [hop]; decide
        have f8 : (op.toList == [38, 38]) = false := by rw [(opF op).p8]; rw [hop]; decide
        have f9 : (op.toList == [124, 124]) = true := by rw [(opF op).p9]; rw [hop]; decide
        have hop' := Aside0.mk hop
        clear hop
        by_cases hq : xn = 0
        · subst hq
          by_cases hy0 : ye = 0
          · subst hy0
            have hR : Aside0 ((tru (yn != 0), 0) = (rn, re)) := ⟨by rw [← hres'.out, if_neg (by rw [hop'.out]; simp [show sOr ≠ sAnd from by decide]), if_neg (by simp)]; unfold arith; rw [hop'.out]; rfl⟩
            go_enter Tryd.func34, Tryd.ntmps34
            go_upto_region 1 with fail
            refine wp_world (fun W hW => ?_)
            obtain ⟨b, hb⟩ : ∃ b, w.heap.size = b := ⟨_, rfl⟩
            obtain ⟨A, c, _, _, _, _, _, hgl⟩ := h'.out.cells
            have hbg : Aside0 (b ≠ g) := ⟨by omega⟩
            have hX : W.heap[w.heap.size]? = some (.cells #[.string op, .nilIface, .nilIface] 50 (0, 0)) := by rw [hW]; exact blk_new _ _
            have hEW : Aside0 (Ev w0 g vs 0 W0 W) := ⟨h'.out.step (by rw [hW]; exact below_alloc (Below.refl _ _) _)⟩
            rw [hb] at hX
            rw [hb]
            have o0 : W.cell? ⟨b, 0, none⟩ = some (.string op) := (blk_cell hX 0).trans rfl
            have o1 : W.cell? ⟨b, 1, none⟩ = some .nilIface := (blk_cell hX 1).trans rfl
            have o2 : W.cell? ⟨b, 2, none⟩ = some .nilIface := (blk_cell hX 2).trans rfl
            have hX' := Aside0.mk hX
            clear hW hX hgl
            go_upto_region 2 with (first
              | (go_at_call 20; (with_reducible refine (hl'.out _ hEW.out).mono ?_); rintro e w1 ⟨rfl, hE1⟩; have hE1' := Aside0.mk (hEW.out.trans hE1); obtain ⟨A1, c1, _, _, a1, _, _, hgl1⟩ := hE1.cells; have hX1 := Aside0.mk (hE1.blk hX'.out hbg.out); have o0' : w1.cell? ⟨b, 0, none⟩ = some (.string op) := (blk_cell hX1.out 0).trans rfl; have o2' : w1.cell? ⟨b, 2, none⟩ = some .nilIface := (blk_cell hX1.out 2).trans rfl; clear hE1)
              | fail)
            clear o0 o1 o2
            go_wp2_with (first
              | (go_at_call 20; (with_reducible refine (hr'.out _ hE1'.out).mono ?_); rintro e w2 ⟨rfl, hE2⟩; have hE2' := Aside0.mk (hE1'.out.trans hE2); obtain ⟨A2, c2, _, _, a2, _, _, hgl2⟩ := hE2.cells; have hX2 := Aside0.mk (hE2.blk hX1.out hbg.out); have o0'' : w2.cell? ⟨b, 0, none⟩ = some (.string op) := (blk_cell hX2.out 0).trans rfl; clear hE2 o0' o2' a1)
              | (go_at_call 33; (with_reducible refine (truth_calls _ _).mono ?_); rintro e w3 ⟨rfl, ⟨m3, hm3⟩⟩; have hb3 := Aside0.mk hm3; clear hm3)
              | (go_at_call 50; (with_reducible refine (bound_calls w0 _ g vs _ W0 hE2'.out).mono ?_); rintro e w3 ⟨rfl, hE3⟩; have hE3' := Aside0.mk hE3; clear hE3)
              | fail)
            go_ret
            obtain ⟨e1, e2⟩ := Prod.mk.inj hR.out
            rw [← e1, ← e2]
            exact ⟨rfl, (hE2'.out.step (by rw [hb3.out]; exact pw_below_drewN (Below.refl _ _) _))⟩
          · have dy : (ye != 0) = true := by simpa using hy0
            have hy0' := Aside0.mk hy0
            have hR : Aside0 ((0, ye) = (rn, re)) := ⟨by rw [← hres'.out, if_neg (by rw [hop'.out]; simp [show sOr ≠ sAnd from by decide]), if_pos hy0'.out]⟩
            clear hy0
            go_enter Tryd.func34, Tryd.ntmps34
            go_upto_region 1 with fail
            refine wp_world (fun W hW => ?_)
            obtain ⟨b, hb⟩ : ∃ b, w.heap.size = b := ⟨_, rfl⟩
            obtain ⟨A, c, _, _, _, _, _, hgl⟩ := h'.out.cells
            have hbg : Aside0 (b ≠ g) := ⟨by omega⟩
            have hX : W.heap[w.heap.size]? = some (.cells #[.string op, .nilIface, .nilIface] 50 (0, 0)) := by rw [hW]; exact blk_new _ _
            have hEW : Aside0 (Ev w0 g vs 0 W0 W) := ⟨h'.out.step (by rw [hW]; exact below_alloc (Below.refl _ _) _)⟩
            rw [hb] at hX
            rw [hb]
            have o0 : W.cell? ⟨b, 0, none⟩ = some (.string op) := (blk_cell hX 0).trans rfl
            have o1 : W.cell? ⟨b, 1, none⟩ = some .nilIface := (blk_cell hX 1).trans rfl
            have o2 : W.cell? ⟨b, 2, none⟩ = some .nilIface := (blk_cell hX 2).trans rfl
            have hX' := Aside0.mk hX
            clear hW hX hgl
            go_upto_region 2 with (first
              | (go_at_call 20; (with_reducible refine (hl'.out _ hEW.out).mono ?_); rintro e w1 ⟨rfl, hE1⟩; have hE1' := Aside0.mk (hEW.out.trans hE1); obtain ⟨A1, c1, _, _, a1, _, _, hgl1⟩ := hE1.cells; have hX1 := Aside0.mk (hE1.blk hX'.out hbg.out); have o0' : w1.cell? ⟨b, 0, none⟩ = some (.string op) := (blk_cell hX1.out 0).trans rfl; have o2' : w1.cell? ⟨b, 2, none⟩ = some .nilIface := (blk_cell hX1.out 2).trans rfl; clear hE1)
              | fail)
            clear o0 o1 o2
            go_wp2_with (first
              | (go_at_call 20; (with_reducible refine (hr'.out _ hE1'.out).mono ?_); rintro e w2 ⟨rfl, hE2⟩; have hE2' := Aside0.mk (hE1'.out.trans hE2); obtain ⟨A2, c2, _, _, a2, _, _, hgl2⟩ := hE2.cells; have hX2 := Aside0.mk (hE2.blk hX1.out hbg.out); have o0'' : w2.cell? ⟨b, 0, none⟩ = some (.string op) := (blk_cell hX2.out 0).trans rfl; clear hE2 o0' o2' a1)
              | (go_at_call 33; (with_reducible refine (truth_calls _ _).mono ?_); rintro e w3 ⟨rfl, ⟨m3, hm3⟩⟩; have hb3 := Aside0.mk hm3; clear hm3)
              | (go_at_call 50; (with_reducible refine (bound_calls w0 _ g vs _ W0 hE2'.out).mono ?_); rintro e w3 ⟨rfl, hE3⟩; have hE3' := Aside0.mk hE3; clear hE3)
              | fail)
            go_ret
            obtain ⟨e1, e2⟩ := Prod.mk.inj hR.out
            rw [← e1, ← e2]
            exact ⟨rfl, hE2'.out⟩
        · have dq : (xn != 0) = true := by simpa using hq
          have hq' := Aside0.mk hq
          clear hq
          have hR : Aside0 ((tru true, 0) = (rn, re)) := ⟨by rw [← hres'.out, if_pos (Or.inr (Or.inr ⟨hop'.out, hq'.out⟩)), dq]⟩
          go_enter Tryd.func34, Tryd.ntmps34
          go_upto_region 1 with fail
          refine wp_world (fun W hW => ?_)
          obtain ⟨b, hb⟩ : ∃ b, w.heap.size = b := ⟨_, rfl⟩
          obtain ⟨A, c, _, _, _, _, _, hgl⟩ := h'.out.cells
          have hbg : Aside0 (b ≠ g) := ⟨by omega⟩
          have hX : W.heap[w.heap.size]? = some (.cells #[.string op, .nilIface, .nilIface] 50 (0, 0)) := by rw [hW]; exact blk_new _ _
          have hEW : Aside0 (Ev w0 g vs 0 W0 W) := ⟨h'.out.step (by rw [hW]; exact below_alloc (Below.refl _ _) _)⟩
          rw [hb] at hX
          rw [hb]
          have o0 : W.cell? ⟨b, 0, none⟩ = some (.string op) := (blk_cell hX 0).trans rfl
          have o1 : W.cell? ⟨b, 1, none⟩ = some .nilIface := (blk_cell hX 1).trans rfl
          have o2 : W.cell? ⟨b, 2, none⟩ = some .nilIface := (blk_cell hX 2).trans rfl
          have hX' := Aside0.mk hX
          clear hW hX hgl
          go_upto_region 2 with (first
            | (go_at_call 20; (with_reducible refine (hl'.out _ hEW.out).mono ?_); rintro e w1 ⟨rfl, hE1⟩; have hE1' := Aside0.mk (hEW.out.trans hE1); obtain ⟨A1, c1, _, _, a1, _, _, hgl1⟩ := hE1.cells; have hX1 := Aside0.mk (hE1.blk hX'.out hbg.out); have o0' : w1.cell? ⟨b, 0, none⟩ = some (.string op) := (blk_cell hX1.out 0).trans rfl; have o2' : w1.cell? ⟨b, 2, none⟩ = some .nilIface := (blk_cell hX1.out 2).trans rfl; clear hE1)
            | fail)
          clear o0 o1 o2
          go_wp2_with (first
            | (go_at_call 20; (with_reducible refine (hr'.out _ hE1'.out).mono ?_); rintro e w2 ⟨rfl, hE2⟩; have hE2' := Aside0.mk (hE1'.out.trans hE2); obtain ⟨A2, c2, _, _, a2, _, _, hgl2⟩ := hE2.cells; have hX2 := Aside0.mk (hE2.blk hX1.out hbg.out); have o0'' : w2.cell? ⟨b, 0, none⟩ = some (.string op) := (blk_cell hX2.out 0).trans rfl; clear hE2 o0' o2' a1)
            | (go_at_call 33; (with_reducible refine (truth_calls _ _).mono ?_); rintro e w3 ⟨rfl, ⟨m3, hm3⟩⟩; have hb3 := Aside0.mk hm3; clear hm3)
            | (go_at_call 50; (with_reducible refine (bound_calls w0 _ g vs _ W0 hE2'.out).mono ?_); rintro e w3 ⟨rfl, hE3⟩; have hE3' := Aside0.mk hE3; clear hE3)
            | fail)
          go_ret
          obtain ⟨e1, e2⟩ := Prod.mk.inj hR.out
          rw [← e1, ← e2]
          exact ⟨rfl, (hE1'.out.step (by rw [hb3.out]; exact pw_below_drewN (Below.refl _ _) _))⟩
      have h9 := Aside0.mk hop
      clear hop
      have f1 : (op.toList == [43]) = false := by rw [(opF op).p1]; exact decide_eq_false h1.out
      have f2 : (op.toList == [45]) = false := by rw [(opF op).p2]; exact decide_eq_false h2.out
      have f3 : (op.toList == [42]) = false := by rw [(opF op).p3]; exact decide_eq_false h3.out
      have f4 : (op.toList == [60]) = false := by rw [(opF op).p4]; exact decide_eq_false h4.out
      have f5 : (op.toList == [60, 61]) = false := by rw [(opF op).p5]; exact decide_eq_false h5.out
      have f6 : (op.toList == [61, 61]) = false := by rw [(opF op).p6]; exact decide_eq_false h6.out
      have f7 : (op.toList == [33, 61]) = false := by rw [(opF op).p7]; exact decide_eq_false h7.out
      have f8 : (op.toList == [38, 38]) = false := by rw [(opF op).p8]; exact decide_eq_false h8.out
      have f9 : (op.toList == [124, 124]) = false := by rw [(opF op).p9]; exact decide_eq_false h9.out
      by_cases hy0 : ye = 0
      · subst hy0
        have hR : Aside0 ((tru (yn != 0), 0) = (rn, re)) := ⟨by rw [← hres'.out, if_neg (by simp [h8.out, h9.out]), if_neg (by simp)]; unfold arith; rw [if_neg h1.out, if_neg h2.out, if_neg h3.out, if_neg h4.out, if_neg h5.out, if_neg h6.out, if_neg h7.out]⟩
        go_enter Tryd.func34, Tryd.ntmps34
        go_upto_region 1 with fail
        refine wp_world (fun W hW => ?_)
        obtain ⟨b, hb⟩ : ∃ b, w.heap.size = b := ⟨_, rfl⟩
        obtain ⟨A, c, _, _, _, _, _, hgl⟩ := h'.out.cells
        have hbg : Aside0 (b ≠ g) := ⟨by omega⟩
        have hX : W.heap[w.heap.size]? = some (.cells #[.string op, .nilIface, .nilIface] 50 (0, 0)) := by rw [hW]; exact blk_new _ _
        have hEW : Aside0 (Ev w0 g vs 0 W0 W) := ⟨h'.out.step (by rw [hW]; exact below_alloc (Below.refl _ _) _)⟩
        rw [hb] at hX
        rw [hb]
        have o0 : W.cell? ⟨b, 0, none⟩ = some (.string op) := (blk_cell hX 0).trans rfl
        have o1 : W.cell? ⟨b, 1, none⟩ = some .nilIface := (blk_cell hX 1).trans rfl
        have o2 : W.cell? ⟨b, 2, none⟩ = some .nilIface := (blk_cell hX 2).trans rfl
        have hX' := Aside0.mk hX
        clear hW hX hgl
        go_upto_region 2 with (first
          | (go_at_call 20; (with_reducible refine (hl'.out _ hEW.out).mono ?_); rintro e w1 ⟨rfl, hE1⟩; have hE1' := Aside0.mk (hEW.out.trans hE1); obtain ⟨A1, c1, _, _, a1, _, _, hgl1⟩ := hE1.cells; have hX1 := Aside0.mk (hE1.blk hX'.out hbg.out); have o0' : w1.cell? ⟨b, 0, none⟩ = some (.string op) := (blk_cell hX1.out 0).trans rfl; have o2' : w1.cell? ⟨b, 2, none⟩ = some .nilIface := (blk_cell hX1.out 2).trans rfl; clear hE1)
          | fail)
        clear o0 o1 o2
        go_wp2_with (first
          | (go_at_call 20; (with_reducible refine (hr'.out _ hE1'.out).mono ?_); rintro e w2 ⟨rfl, hE2⟩; have hE2' := Aside0.mk (hE1'.out.trans hE2); obtain ⟨A2, c2, _, _, a2, _, _, hgl2⟩ := hE2.cells; have hX2 := Aside0.mk (hE2.blk hX1.out hbg.out); have o0'' : w2.cell? ⟨b, 0, none⟩ = some (.string op) := (blk_cell hX2.out 0).trans rfl; clear hE2 o0' o2' a1)
          | (go_at_call 33; (with_reducible refine (truth_calls _ _).mono ?_); rintro e w3 ⟨rfl, ⟨m3, hm3⟩⟩; have hb3 := Aside0.mk hm3; clear hm3)
          | (go_at_call 50; (with_reducible refine (bound_calls w0 _ g vs _ W0 hE2'.out).mono ?_); rintro e w3 ⟨rfl, hE3⟩; have hE3' := Aside0.mk hE3; clear hE3)
          | fail)
        go_ret
        obtain ⟨e1, e2⟩ := Prod.mk.inj hR.out
        rw [← e1, ← e2]
        exact ⟨rfl, (hE2'.out.step (by rw [hb3.out]; exact pw_below_drewN (Below.refl _ _) _))⟩
      · have dy : (ye != 0) = true := by simpa using hy0
        have hy0' := Aside0.mk hy0
        have hR : Aside0 ((0, ye) = (rn, re)) := ⟨by rw [← hres'.out, if_neg (by simp [h8.out, h9.out]), if_pos hy0'.out]⟩
        clear hy0
        go_enter Tryd.func34, Tryd.ntmps34
        go_upto_region 1 with fail
        refine wp_world (fun W hW => ?_)
        obtain ⟨b, hb⟩ : ∃ b, w.heap.size = b := ⟨_, rfl⟩
        obtain ⟨A, c, _, _, _, _, _, hgl⟩ := h'.out.cells
        have hbg : Aside0 (b ≠ g) := ⟨by omega⟩
        have hX : W.heap[w.heap.size]? = some (.cells #[.string op, .nilIface, .nilIface] 50 (0, 0)) := by rw [hW]; exact blk_new _ _
        have hEW : Aside0 (Ev w0 g vs 0 W0 W) := ⟨h'.out.step (by rw [hW]; exact below_alloc (Below.refl _ _) _)⟩
        rw [hb] at hX
        rw [hb]
        have o0 : W.cell? ⟨b, 0, none⟩ = some (.string op) := (blk_cell hX 0).trans rfl
        have o1 : W.cell? ⟨b, 1, none⟩ = some .nilIface := (blk_cell hX 1).trans rfl
        have o2 : W.cell? ⟨b, 2, none⟩ = some .nilIface := (blk_cell hX 2).trans rfl
        have hX' := Aside0.mk hX
        clear hW hX hgl
        go_upto_region 2 with (first
          | (go_at_call 20; (with_reducible refine (hl'.out _ hEW.out).mono ?_); rintro e w1 ⟨rfl, hE1⟩; have hE1' := Aside0.mk (hEW.out.trans hE1); obtain ⟨A1, c1, _, _, a1, _, _, hgl1⟩ := hE1.cells; have hX1 := Aside0.mk (hE1.blk hX'.out hbg.out); have o0' : w1.cell? ⟨b, 0, none⟩ = some (.string op) := (blk_cell hX1.out 0).trans rfl; have o2' : w1.cell? ⟨b, 2, none⟩ = some .nilIface := (blk_cell hX1.out 2).trans rfl; clear hE1)
          | fail)
        clear o0 o1 o2
        go_wp2_with (first
          | (go_at_call 20; (with_reducible refine (hr'.out _ hE1'.out).mono ?_); rintro e w2 ⟨rfl, hE2⟩; have hE2' := Aside0.mk (hE1'.out.trans hE2); obtain ⟨A2, c2, _, _, a2, _, _, hgl2⟩ := hE2.cells; have hX2 := Aside0.mk (hE2.blk hX1.out hbg.out); have o0'' : w2.cell? ⟨b, 0, none⟩ = some (.string op) := (blk_cell hX2.out 0).trans rfl; clear hE2 o0' o2' a1)
          | (go_at_call 33; (with_reducible refine (truth_calls _ _).mono ?_); rintro e w3 ⟨rfl, ⟨m3, hm3⟩⟩; have hb3 := Aside0.mk hm3; clear hm3)
          | (go_at_call 50; (with_reducible refine (bound_calls w0 _ g vs _ W0 hE2'.out).mono ?_); rintro e w3 ⟨rfl, hE3⟩; have hE3' := Aside0.mk hE3; clear hE3)
          | fail)
        go_ret
        obtain ⟨e1, e2⟩ := Prod.mk.inj hR.out
        rw [← e1, ← e2]
        exact ⟨rfl, hE2'.out⟩
    · have dx : (xe != 0) = true := by simpa using hx0
      have hR : Aside0 ((tru (xn != 0), xe) = (rn, re)) := ⟨by rw [← hres'.out, if_pos (Or.inl hx0)]⟩
      clear hx0
      go_enter Tryd.func34, Tryd.ntmps34
      go_upto_region 1 with fail
      refine wp_world (fun W hW => ?_)
      obtain ⟨b, hb⟩ : ∃ b, w.heap.size = b := ⟨_, rfl⟩
      obtain ⟨A, c, _, _, _, _, _, hgl⟩ := h'.out.cells
      have hbg : Aside0 (b ≠ g) := ⟨by omega⟩
      have hX : W.heap[w.heap.size]? = some (.cells #[.string op, .nilIface, .nilIface] 50 (0, 0)) := by rw [hW]; exact blk_new _ _
      have hEW : Aside0 (Ev w0 g vs 0 W0 W) := ⟨h'.out.step (by rw [hW]; exact below_alloc (Below.refl _ _) _)⟩
      rw [hb] at hX
      rw [hb]
      have o0 : W.cell? ⟨b, 0, none⟩ = some (.string op) := (blk_cell hX 0).trans rfl
      have o1 : W.cell? ⟨b, 1, none⟩ = some .nilIface := (blk_cell hX 1).trans rfl
      have o2 : W.cell? ⟨b, 2, none⟩ = some .nilIface := (blk_cell hX 2).trans rfl
      have hX' := Aside0.mk hX
      clear hW hX hgl
      go_upto_region 2 with (first
        | (go_at_call 20; (with_reducible refine (hl'.out _ hEW.out).mono ?_); rintro e w1 ⟨rfl, hE1⟩; have hE1' := Aside0.mk (hEW.out.trans hE1); obtain ⟨A1, c1, _, _, a1, _, _, hgl1⟩ := hE1.cells; have hX1 := Aside0.mk (hE1.blk hX'.out hbg.out); have o0' : w1.cell? ⟨b, 0, none⟩ = some (.string op) := (blk_cell hX1.out 0).trans rfl; have o2' : w1.cell? ⟨b, 2, none⟩ = some .nilIface := (blk_cell hX1.out 2).trans rfl; clear hE1)
        | fail)
      clear o0 o1 o2
      go_wp2_with (first
        | (go_at_call 20; (with_reducible refine (hr'.out _ hE1'.out).mono ?_); rintro e w2 ⟨rfl, hE2⟩; have hE2' := Aside0.mk (hE1'.out.trans hE2); obtain ⟨A2, c2, _, _, a2, _, _, hgl2⟩ := hE2.cells; have hX2 := Aside0.mk (hE2.blk hX1.out hbg.out); have o0'' : w2.cell? ⟨b, 0, none⟩ = some (.string op) := (blk_cell hX2.out 0).trans rfl; clear hE2 o0' o2' a1)
        | (go_at_call 33; (with_reducible refine (truth_calls _ _).mono ?_); rintro e w3 ⟨rfl, ⟨m3, hm3⟩⟩; have hb3 := Aside0.mk hm3; clear hm3)
        | (go_at_call 50; (with_reducible refine (bound_calls w0 _ g vs _ W0 hE2'.out).mono ?_); rintro e w3 ⟨rfl, hE3⟩; have hE3' := Aside0.mk hE3; clear hE3)
        | fail)
      go_ret
      obtain ⟨e1, e2⟩ := Prod.mk.inj hR.out
      rw [← e1, ← e2]
      exact ⟨rfl, (hE1'.out.step (by rw [hb3.out]; exact pw_below_drewN (Below.refl _ _) _))⟩
  · by_cases hx0 : xe = 0
    · subst hx0
      by_cases hop : op = sPlus
      · have f1 : (op.toList == [43]) = true := by rw [(opF op).p1]; rw [hop]; decide
        have f2 : (op.toList == [45]) = false := by rw [(opF op).p2]; rw [hop]; decide
        have f3 : (op.toList == [42]) = false := by rw [(opF op).p3]; rw [hop]; decide
        have f4 : (op.toList == [60]) = false := by rw [(opF op).p4]; rw [hop]; decide
        have f5 : (op.toList == [60, 61]) = false := by rw [(opF op).p5]; rw [hop]; decide
        have f6 : (op.toList == [61, 61]) = false := by rw [(opF op).p6]; rw [hop]; decide
        have f7 : (op.toList == [33, 61]) = false := by rw [(opF op).p7]; rw [hop]; decide
        have f8 : (op.toList == [38, 38]) = false := by rw [(opF op).p8]; rw [hop]; decide
        have f9 : (op.toList == [124, 124]) = false := by rw [(opF op).p9]; rw [hop]; decide
        have hop' := Aside0.mk hop
        clear hop
        by_cases hy0 : ye = 0
        · subst hy0
          have hR : Aside0 (withB (wrap64 (xn + yn)) = (rn, re)) := ⟨by rw [← hres'.out, if_neg (by rw [hop'.out]; simp [show sPlus ≠ sAnd from by decide, show sPlus ≠ sOr from by decide]), if_neg (by simp)]; unfold arith; rw [hop'.out]; rfl⟩
          go_enter Tryd.func34, Tryd.ntmps34
          go_upto_region 1 with fail
          refine wp_world (fun W hW => ?_)
          obtain ⟨b, hb⟩ : ∃ b, w.heap.size = b := ⟨_, rfl⟩
          obtain ⟨A, c, _, _, _, _, _, hgl⟩ := h'.out.cells
          have hbg : Aside0 (b ≠ g) := ⟨by omega⟩
          have hX : W.heap[w.heap.size]? = some (.cells #[.string op, .nilIface, (.iface t2 u2)] 50 (0, 0)) := by rw [hW]; exact blk_new _ _
          have hEW : Aside0 (Ev w0 g vs 0 W0 W) := ⟨h'.out.step (by rw [hW]; exact below_alloc (Below.refl _ _) _)⟩
          rw [hb] at hX
          rw [hb]
          have o0 : W.cell? ⟨b, 0, none⟩ = some (.string op) := (blk_cell hX 0).trans rfl
          have o1 : W.cell? ⟨b, 1, none⟩ = some .nilIface := (blk_cell hX 1).trans rfl
          have o2 : W.cell? ⟨b, 2, none⟩ = some (.iface t2 u2) := (blk_cell hX 2).trans rfl
          have hX' := Aside0.mk hX
          clear hW hX hgl
          go_upto_region 2 with (first
            | (go_at_call 20; (with_reducible refine (hl'.out _ hEW.out).mono ?_); rintro e w1 ⟨rfl, hE1⟩; have hE1' := Aside0.mk (hEW.out.trans hE1); obtain ⟨A1, c1, _, _, a1, _, _, hgl1⟩ := hE1.cells; have hX1 := Aside0.mk (hE1.blk hX'.out hbg.out); have o0' : w1.cell? ⟨b, 0, none⟩ = some (.string op) := (blk_cell hX1.out 0).trans rfl; have o2' : w1.cell? ⟨b, 2, none⟩ = some (.iface t2 u2) := (blk_cell hX1.out 2).trans rfl; clear hE1)
            | fail)
          clear o0 o1 o2
          go_wp2_with (first
            | (go_at_call 20; (with_reducible refine (hr'.out _ hE1'.out).mono ?_); rintro e w2 ⟨rfl, hE2⟩; have hE2' := Aside0.mk (hE1'.out.trans hE2); obtain ⟨A2, c2, _, _, a2, _, _, hgl2⟩ := hE2.cells; have hX2 := Aside0.mk (hE2.blk hX1.out hbg.out); have o0'' : w2.cell? ⟨b, 0, none⟩ = some (.string op) := (blk_cell hX2.out 0).trans rfl; clear hE2 o0' o2' a1)
            | (go_at_call 33; (with_reducible refine (truth_calls _ _).mono ?_); rintro e w3 ⟨rfl, ⟨m3, hm3⟩⟩; have hb3 := Aside0.mk hm3; clear hm3)
            | (go_at_call 50; (with_reducible refine (bound_calls w0 _ g vs _ W0 hE2'.out).mono ?_); rintro e w3 ⟨rfl, hE3⟩; have hE3' := Aside0.mk hE3; clear hE3)
            | fail)
          go_ret
          obtain ⟨e1, e2⟩ := Prod.mk.inj hR.out
          rw [← e1, ← e2]
          exact ⟨rfl, hE3'.out⟩
        · have dy : (ye != 0) = true := by simpa using hy0
          have hy0' := Aside0.mk hy0
          have hR : Aside0 ((0, ye) = (rn, re)) := ⟨by rw [← hres'.out, if_neg (by rw [hop'.out]; simp [show sPlus ≠ sAnd from by decide, show sPlus ≠ sOr from by decide]), if_pos hy0'.out]⟩
          clear hy0
          go_enter Tryd.func34, Tryd.ntmps34
          go_upto_region 1 with fail
          refine wp_world (fun W hW => ?_)
          obtain ⟨b, hb⟩ : ∃ b, w.heap.size = b := ⟨_, rfl⟩
          obtain ⟨A, c, _, _, _, _, _, hgl⟩ := h'.out.cells
          have hbg : Aside0 (b ≠ g) := ⟨by omega⟩
          have hX : W.heap[w.heap.size]? = some (.cells #[.string op, .nilIface, (.iface t2 u2)] 50 (0, 0)) := by rw [hW]; exact blk_new _ _
          have hEW : Aside0 (Ev w0 g vs 0 W0 W) := ⟨h'.out.step (by rw [hW]; exact below_alloc (Below.refl _ _) _)⟩
          rw [hb] at hX
          rw [hb]
          have o0 : W.cell? ⟨b, 0, none⟩ = some (.string op) := (blk_cell hX 0).trans rfl
          have o1 : W.cell? ⟨b, 1, none⟩ = some .nilIface := (blk_cell hX 1).trans rfl
          have o2 : W.cell? ⟨b, 2, none⟩ = some (.iface t2 u2) := (blk_cell hX 2).trans rfl
          have hX' := Aside0.mk hX
          clear hW hX hgl
          go_upto_region 2 with (first
            | (go_at_call 20; (with_reducible refine (hl'.out _ hEW.out).mono ?_); rintro e w1 ⟨rfl, hE1⟩; have hE1' := Aside0.mk (hEW.out.trans hE1); obtain ⟨A1, c1, _, _, a1, _, _, hgl1⟩ := hE1.cells; have hX1 := Aside0.mk (hE1.blk hX'.out hbg.out); have o0' : w1.cell? ⟨b, 0, none⟩ = some (.string op) := (blk_cell hX1.out 0).trans rfl; have o2' : w1.cell? ⟨b, 2, none⟩ = some (.iface t2 u2) := (blk_cell hX1.out 2).trans rfl; clear hE1)
            | fail)
          clear o0 o1 o2
          go_wp2_with (first
            | (go_at_call 20; (with_reducible refine (hr'.out _ hE1'.out).mono ?_); rintro e w2 ⟨rfl, hE2⟩; have hE2' := Aside0.mk (hE1'.out.trans hE2); obtain ⟨A2, c2, _, _, a2, _, _, hgl2⟩ := hE2.cells; have hX2 := Aside0.mk (hE2.blk hX1.out hbg.out); have o0'' : w2.cell? ⟨b, 0, none⟩ = some (.string op) := (blk_cell hX2.out 0).trans rfl; clear hE2 o0' o2' a1)
            | (go_at_call 33; (with_reducible refine (truth_calls _ _).mono ?_); rintro e w3 ⟨rfl, ⟨m3, hm3⟩⟩; have hb3 := Aside0.mk hm3; clear hm3)
            | (go_at_call 50; (with_reducible refine (bound_calls w0 _ g vs _ W0 hE2'.out).mono ?_); rintro e w3 ⟨rfl, hE3⟩; have hE3' := Aside0.mk hE3; clear hE3)
            | fail)
          go_ret
          obtain ⟨e1, e2⟩ := Prod.mk.inj hR.out
          rw [← e1, ← e2]
          exact ⟨rfl, hE2'.out⟩
      have h1 := Aside0.mk hop
      clear hop
      by_cases hop : op = sMinus
      · have f1 : (op.toList == [43]) = false := by rw [(opF op).p1]; rw [hop]; decide
        have f2 : (op.toList == [45]) = true := by rw [(opF op).p2]; rw [hop]; decide
        have f3 : (op.toList == [42]) = false := by rw [(opF op).p3]; rw [hop]; decide
        have f4 : (op.toList == [60]) = false := by rw [(opF op).p4]; rw [hop]; decide
        have f5 : (op.toList == [60, 61]) = false := by rw [(opF op).p5]; rw [hop]; decide
        have f6 : (op.toList == [61, 61]) = false := by rw [(opF op).p6]; rw [hop]; decide
        have f7 : (op.toList == [33, 61]) = false := by rw [(opF op).p7]; rw [hop]; decide
        have f8 : (op.toList == [38, 38]) = false := by rw [(opF op).p8]; rw [hop]; decide
        have f9 : (op.toList == [124, 124]) = false := by rw [(opF op).p9]; rw [hop]; decide
        have hop' := Aside0.mk hop
        clear hop
        by_cases hy0 : ye = 0
        · subst hy0
          have hR : Aside0 (withB (wrap64 (xn - yn)) = (rn, re)) := ⟨by rw [← hres'.out, if_neg (by rw [hop'.out]; simp [show sMinus ≠ sAnd from by decide, show sMinus ≠ sOr from by decide]), if_neg (by simp)]; unfold arith; rw [hop'.out]; rfl⟩
          go_enter Tryd.func34, Tryd.ntmps34
          go_upto_region 1 with fail
          refine wp_world (fun W hW => ?_)
          obtain ⟨b, hb⟩ : ∃ b, w.heap.size = b := ⟨_, rfl⟩
          obtain ⟨A, c, _, _, _, _, _, hgl⟩ := h'.out.cells
          have hbg : Aside0 (b ≠ g) := ⟨by omega⟩
          have hX : W.heap[w.heap.size]? = some (.cells #[.string op, .nilIface, (.iface t2 u2)] 50 (0, 0)) := by rw [hW]; exact blk_new _ _
          have hEW : Aside0 (Ev w0 g vs 0 W0 W) := ⟨h'.out.step (by rw [hW]; exact below_alloc (Below.refl _ _) _)⟩
          rw [hb] at hX
          rw [hb]
          have o0 : W.cell? ⟨b, 0, none⟩ = some (.string op) := (blk_cell hX 0).trans rfl
          have o1 : W.cell? ⟨b, 1, none⟩ = some .nilIface := (blk_cell hX 1).trans rfl
          have o2 : W.cell? ⟨b, 2, none⟩ = some (.iface t2 u2) := (blk_cell hX 2).trans rfl
          have hX' := Aside0.mk hX
          clear hW hX hgl
          go_upto_region 2 with (first
            | (go_at_call 20; (with_reducible refine (hl'.out _ hEW.out).mono ?_); rintro e w1 ⟨rfl, hE1⟩; have hE1' := Aside0.mk (hEW.out.trans hE1); obtain ⟨A1, c1, _, _, a1, _, _, hgl1⟩ := hE1.cells; have hX1 := Aside0.mk (hE1.blk hX'.out hbg.out); have o0' : w1.cell? ⟨b, 0, none⟩ = some (.string op) := (blk_cell hX1.out 0).trans rfl; have o2' : w1.cell? ⟨b, 2, none⟩ = some (.iface t2 u2) := (blk_cell hX1.out 2).trans rfl; clear hE1)
            | fail)
          clear o0 o1 o2
          go_wp2_with (first
            | (go_at_call 20; (with_reducible refine (hr'.out _ hE1'.out).mono ?_); rintro e w2 ⟨rfl, hE2⟩; have hE2' := Aside0.mk (hE1'.out.trans hE2); obtain ⟨A2, c2, _, _, a2, _, _, hgl2⟩ := hE2.cells; have hX2 := Aside0.mk (hE2.blk hX1.out hbg.out); have o0'' : w2.cell? ⟨b, 0, none⟩ = some (.string op) := (blk_cell hX2.out 0).trans rfl; clear hE2 o0' o2' a1)
            | (go_at_call 33; (with_reducible refine (truth_calls _ _).mono ?_); rintro e w3 ⟨rfl, ⟨m3, hm3⟩⟩; have hb3 := Aside0.mk hm3; clear hm3)
            | (go_at_call 50; (with_reducible refine (bound_calls w0 _ g vs _ W0 hE2'.out).mono ?_); rintro e w3 ⟨rfl, hE3⟩; have hE3' := Aside0.mk hE3; clear hE3)
            | fail)
          go_ret
          obtain ⟨e1, e2⟩ := Prod.mk.inj hR.out
          rw [← e1, ← e2]
          exact ⟨rfl, hE3'.out⟩
        · have dy : (ye != 0) = true := by simpa using hy0
          have hy0' := Aside0.mk hy0
          have hR : Aside0 ((0, ye) = (rn, re)) := ⟨by rw [← hres'.out, if_neg (by rw [hop'.out]; simp [show sMinus ≠ sAnd from by decide, show sMinus ≠ sOr from by decide]), if_pos hy0'.out]⟩
          clear hy0
          go_enter Tryd.func34, Tryd.ntmps34
          go_upto_region 1 with fail
          refine wp_world (fun W hW => ?_)
          obtain ⟨b, hb⟩ : ∃ b, w.heap.size = b := ⟨_, rfl⟩
          obtain ⟨A, c, _, _, _, _, _, hgl⟩ := h'.out.cells
          have hbg : Aside0 (b ≠ g) := ⟨by omega⟩
          have hX : W.heap[w.heap.size]? = some (.cells #[.string op, .nilIface, (.iface t2 u2)] 50 (0, 0)) := by rw [hW]; exact blk_new _ _
          have hEW : Aside0 (Ev w0 g vs 0 W0 W) := ⟨h'.out.step (by rw [hW]; exact below_alloc (Below.refl _ _) _)⟩
          rw [hb] at hX
          rw [hb]
          have o0 : W.cell? ⟨b, 0, none⟩ = some (.string op) := (blk_cell hX 0).trans rfl
          have o1 : W.cell? ⟨b, 1, none⟩ = some .nilIface := (blk_cell hX 1).trans rfl
          have o2 : W.cell? ⟨b, 2, none⟩ = some (.iface t2 u2) := (blk_cell hX 2).trans rfl
          have hX' := Aside0.mk hX
          clear hW hX hgl
          go_upto_region 2 with (first
            | (go_at_call 20; (with_reducible refine (hl'.out _ hEW.out).mono ?_); rintro e w1 ⟨rfl, hE1⟩; have hE1' := Aside0.mk (hEW.out.trans hE1); obtain ⟨A1, c1, _, _, a1, _, _, hgl1⟩ := hE1.cells; have hX1 := Aside0.mk (hE1.blk hX'.out hbg.out); have o0' : w1.cell? ⟨b, 0, none⟩ = some (.string op) := (blk_cell hX1.out 0).trans rfl; have o2' : w1.cell? ⟨b, 2, none⟩ = some (.iface t2 u2) := (blk_cell hX1.out 2).trans rfl; clear hE1)
            | fail)
          clear o0 o1 o2
          go_wp2_with (first
            | (go_at_call 20; (with_reducible refine (hr'.out _ hE1'.out).mono ?_); rintro e w2 ⟨rfl, hE2⟩; have hE2' := Aside0.mk (hE1'.out.trans hE2); obtain ⟨A2, c2, _, _, a2, _, _, hgl2⟩ := hE2.cells; have hX2 := Aside0.mk (hE2.blk hX1.out hbg.out); have o0'' : w2.cell? ⟨b, 0, none⟩ = some (.string op) := (blk_cell hX2.out 0).trans rfl; clear hE2 o0' o2' a1)
            | (go_at_call 33; (with_reducible refine (truth_calls _ _).mono ?_); rintro e w3 ⟨rfl, ⟨m3, hm3⟩⟩; have hb3 := Aside0.mk hm3; clear hm3)
            | (go_at_call 50; (with_reducible refine (bound_calls w0 _ g vs _ W0 hE2'.out).mono ?_); rintro e w3 ⟨rfl, hE3⟩; have hE3' := Aside0.mk hE3; clear hE3)
            | fail)
          go_ret
          obtain ⟨e1, e2⟩ := Prod.mk.inj hR.out
          rw [← e1, ← e2]
          exact ⟨rfl, hE2'.out⟩
      have h2 := Aside0.mk hop
      clear hop
      by_cases hop : op = sMul
      · have f1 : (op.toList == [43]) = false := by rw [(opF op).p1]; rw [hop]; decide
        have f2 : (op.toList == [45]) = false := by rw [(opF op).p2]; rw [hop]; decide
        have f3 : (op.toList == [42]) = true := by rw [(opF op).p3]; rw [hop]; decide
        have f4 : (op.toList == [60]) = false := by rw [(opF op).p4]; rw [hop]; decide
        have f5 : (op.toList == [60, 61]) = false := by rw [(opF op).p5]; rw [hop]; decide
        have f6 : (op.toList == [61, 61]) = false := by rw [(opF op).p6]; rw [hop]; decide
        have f7 : (op.toList == [33, 61]) = false := by rw [(opF op).p7]; rw [hop]; decide
        have f8 : (op.toList == [38, 38]) = false := by rw [(opF op).p8]; rw [hop]; decide
        have f9 : (op.toList == [124, 124]) = false := by rw [(opF op).p9]; rw [hop]; decide
        have hop' := Aside0.mk hop
        clear hop
        by_cases hy0 : ye = 0
        · subst hy0
          have hR : Aside0 (withB (wrap64 (xn * yn)) = (rn, re)) := ⟨by rw [← hres'.out, if_neg (by rw [hop'.out]; simp [show sMul ≠ sAnd from by decide, show sMul ≠ sOr from by decide]), if_neg (by simp)]; unfold arith; rw [hop'.out]; rfl⟩
          go_enter Tryd.func34, Tryd.ntmps34
          go_upto_region 1 with fail
          refine wp_world (fun W hW => ?_)
          obtain ⟨b, hb⟩ : ∃ b, w.heap.size = b := ⟨_, rfl⟩
          obtain ⟨A, c, _, _, _, _, _, hgl⟩ := h'.out.cells
          have hbg : Aside0 (b ≠ g) := ⟨by omega⟩
          have hX : W.heap[w.heap.size]? = some (.cells #[.string op, .nilIface, (.iface t2 u2)] 50 (0, 0)) := by rw [hW]; exact blk_new _ _
          have hEW : Aside0 (Ev w0 g vs 0 W0 W) := ⟨h'.out.step (by rw [hW]; exact below_alloc (Below.refl _ _) _)⟩
          rw [hb] at hX
          rw [hb]
          have o0 : W.cell? ⟨b, 0, none⟩ = some (.string op) := (blk_cell hX 0).trans rfl
          have o1 : W.cell? ⟨b, 1, none⟩ = some .nilIface := (blk_cell hX 1).trans rfl
          have o2 : W.cell? ⟨b, 2, none⟩ = some (.iface t2 u2) := (blk_cell hX 2).trans rfl
          have hX' := Aside0.mk hX
          clear hW hX hgl
          go_upto_region 2 with (first
            | (go_at_call 20; (with_reducible refine (hl'.out _ hEW.out).mono ?_); rintro e w1 ⟨rfl, hE1⟩; have hE1' := Aside0.mk (hEW.out.trans hE1); obtain ⟨A1, c1, _, _, a1, _, _, hgl1⟩ := hE1.cells; have hX1 := Aside0.mk (hE1.blk hX'.out hbg.out); have o0' : w1.cell? ⟨b, 0, none⟩ = some (.string op) := (blk_cell hX1.out 0).trans rfl; have o2' : w1.cell? ⟨b, 2, none⟩ = some (.iface t2 u2) := (blk_cell hX1.out 2).trans rfl; clear hE1)
            | fail)
          clear o0 o1 o2
          go_wp2_with (first
            | (go_at_call 20; (with_reducible refine (hr'.out _ hE1'.out).mono ?_); rintro e w2 ⟨rfl, hE2⟩; have hE2' := Aside0.mk (hE1'.out.trans hE2); obtain ⟨A2, c2, _, _, a2, _, _, hgl2⟩ := hE2.cells; have hX2 := Aside0.mk (hE2.blk hX1.out hbg.out); have o0'' : w2.cell? ⟨b, 0, none⟩ = some (.string op) := (blk_cell hX2.out 0).trans rfl; clear hE2 o0' o2' a1)
            | (go_at_call 33; (with_reducible refine (truth_calls _ _).mono ?_); rintro e w3 ⟨rfl, ⟨m3, hm3⟩⟩; have hb3 := Aside0.mk hm3; clear hm3)
            | (go_at_call 50; (with_reducible refine (bound_calls w0 _ g vs _ W0 hE2'.out).mono ?_); rintro e w3 ⟨rfl, hE3⟩; have hE3' := Aside0.mk hE3; clear hE3)
            | fail)
          go_ret
          obtain ⟨e1, e2⟩ := Prod.mk.inj hR.out
          rw [← e1, ← e2]
          exact ⟨rfl, hE3'.out⟩
        · have dy : (ye != 0) = true := by simpa using hy0
          have hy0' := Aside0.mk hy0
          have hR : Aside0 ((0, ye) = (rn, re)) := ⟨by rw [← hres'.out, if_neg (by rw [hop'.out]; simp [show sMul ≠ sAnd from by decide, show sMul ≠ sOr from by decide]), if_pos hy0'.out]⟩
          clear hy0
          go_enter Tryd.func34, Tryd.ntmps34
          go_upto_region 1 with fail
          refine wp_world (fun W hW => ?_)
          obtain ⟨b, hb⟩ : ∃ b, w.heap.size = b := ⟨_, rfl⟩
          obtain ⟨A, c, _, _, _, _, _, hgl⟩ := h'.out.cells
          have hbg : Aside0 (b ≠ g) := ⟨by omega⟩
          have hX : W.heap[w.heap.size]? = some (.cells #[.string op, .nilIface, (.iface t2 u2)] 50 (0, 0)) := by rw [hW]; exact blk_new _ _
          have hEW : Aside0 (Ev w0 g vs 0 W0 W) := ⟨h'.out.step (by rw [hW]; exact below_alloc (Below.refl _ _) _)⟩
          rw [hb] at hX
          rw [hb]
          have o0 : W.cell? ⟨b, 0, none⟩ = some (.string op) := (blk_cell hX 0).trans rfl
          have o1 : W.cell? ⟨b, 1, none⟩ = some .nilIface := (blk_cell hX 1).trans rfl
          have o2 : W.cell? ⟨b, 2, none⟩ = some (.iface t2 u2) := (blk_cell hX 2).trans rfl
          have hX' := Aside0.mk hX
          clear hW hX hgl
          go_upto_region 2 with (first
            | (go_at_call 20; (with_reducible refine (hl'.out _ hEW.out).mono ?_); rintro e w1 ⟨rfl, hE1⟩; have hE1' := Aside0.mk (hEW.out.trans hE1); obtain ⟨A1, c1, _, _, a1, _, _, hgl1⟩ := hE1.cells; have hX1 := Aside0.mk (hE1.blk hX'.out hbg.out); have o0' : w1.cell? ⟨b, 0, none⟩ = some (.string op) := (blk_cell hX1.out 0).trans rfl; have o2' : w1.cell? ⟨b, 2, none⟩ = some (.iface t2 u2) := (blk_cell hX1.out 2).trans rfl; clear hE1)
            | fail)
          clear o0 o1 o2
          go_wp2_with (first
            | (go_at_call 20; (with_reducible refine (hr'.out _ hE1'.out).mono ?_); rintro e w2 ⟨rfl, hE2⟩; have hE2' := Aside0.mk (hE1'.out.trans hE2); obtain ⟨A2, c2, _, _, a2, _, _, hgl2⟩ := hE2.cells; have hX2 := Aside0.mk (hE2.blk hX1.out hbg.out); have o0'' : w2.cell? ⟨b, 0, none⟩ = some (.string op) := (blk_cell hX2.out 0).trans rfl; clear hE2 o0' o2' a1)
            | (go_at_call 33; (with_reducible refine (truth_calls _ _).mono ?_); rintro e w3 ⟨rfl, ⟨m3, hm3⟩⟩; have hb3 := Aside0.mk hm3; clear hm3)
            | (go_at_call 50; (with_reducible refine (bound_calls w0 _ g vs _ W0 hE2'.out).mono ?_); rintro e w3 ⟨rfl, hE3⟩; have hE3' := Aside0.mk hE3; clear hE3)
            | fail)
          go_ret
          obtain ⟨e1, e2⟩ := Prod.mk.inj hR.out
          rw [← e1, ← e2]
          exact ⟨rfl, hE2'.out⟩
      have h3 := Aside0.mk hop
      clear hop
      by_cases hop : op = sLess
      · have f1 : (op.toList == [43]) = false := by rw [(opF op).p1]; rw [hop]; decide
        have f2 : (op.toList == [45]) = false := by rw [(opF op).p2]; rw [hop]; decide
        have f3 : (op.toList == [42]) = false := by rw [(opF op).p3]; rw [hop]; decide
        have f4 : (op.toList == [60]) = true := by rw [(opF op).p4]; rw [hop]; decide
        have f5 : (op.toList == [60, 61]) = false := by rw [(opF op).p5]; rw [hop]; decide
        have f6 : (op.toList == [61, 61]) = false := by rw [(opF op).p6]; rw [hop]; decide
        have f7 : (op.toList == [33, 61]) = false := by rw [(opF op).p7]; rw [hop]; decide
        have f8 : (op.toList == [38, 38]) = false := by rw [(opF op).p8]; rw [hop]; decide
        have f9 : (op.toList == [124, 124]) = false := by rw [(opF op).p9]; rw [hop]; decide
        have hop' := Aside0.mk hop
        clear hop
        by_cases hy0 : ye = 0
        · subst hy0
          have hR : Aside0 ((tru (decide (xn < yn)), 0) = (rn, re)) := ⟨by rw [← hres'.out, if_neg (by rw [hop'.out]; simp [show sLess ≠ sAnd from by decide, show sLess ≠ sOr from by decide]), if_neg (by simp)]; unfold arith; rw [hop'.out]; rfl⟩
          go_enter Tryd.func34, Tryd.ntmps34
          go_upto_region 1 with fail
          refine wp_world (fun W hW => ?_)
          obtain ⟨b, hb⟩ : ∃ b, w.heap.size = b := ⟨_, rfl⟩
          obtain ⟨A, c, _, _, _, _, _, hgl⟩ := h'.out.cells
          have hbg : Aside0 (b ≠ g) := ⟨by omega⟩
          have hX : W.heap[w.heap.size]? = some (.cells #[.string op, .nilIface, (.iface t2 u2)] 50 (0, 0)) := by rw [hW]; exact blk_new _ _
          have hEW : Aside0 (Ev w0 g vs 0 W0 W) := ⟨h'.out.step (by rw [hW]; exact below_alloc (Below.refl _ _) _)⟩
          rw [hb] at hX
          rw [hb]
          have o0 : W.cell? ⟨b, 0, none⟩ = some (.string op) := (blk_cell hX 0).trans rfl
          have o1 : W.cell? ⟨b, 1, none⟩ = some .nilIface := (blk_cell hX 1).trans rfl
          have o2 : W.cell? ⟨b, 2, none⟩ = some (.iface t2 u2) := (blk_cell hX 2).trans rfl
          have hX' := Aside0.mk hX
          clear hW hX hgl
          go_upto_region 2 with (first
            | (go_at_call 20; (with_reducible refine (hl'.out _ hEW.out).mono ?_); rintro e w1 ⟨rfl, hE1⟩; have hE1' := Aside0.mk (hEW.out.trans hE1); obtain ⟨A1, c1, _, _, a1, _, _, hgl1⟩ := hE1.cells; have hX1 := Aside0.mk (hE1.blk hX'.out hbg.out); have o0' : w1.cell? ⟨b, 0, none⟩ = some (.string op) := (blk_cell hX1.out 0).trans rfl; have o2' : w1.cell? ⟨b, 2, none⟩ = some (.iface t2 u2) := (blk_cell hX1.out 2).trans rfl; clear hE1)
            | fail)
          clear o0 o1 o2
          go_wp2_with (first
            | (go_at_call 20; (with_reducible refine (hr'.out _ hE1'.out).mono ?_); rintro e w2 ⟨rfl, hE2⟩; have hE2' := Aside0.mk (hE1'.out.trans hE2); obtain ⟨A2, c2, _, _, a2, _, _, hgl2⟩ := hE2.cells; have hX2 := Aside0.mk (hE2.blk hX1.out hbg.out); have o0'' : w2.cell? ⟨b, 0, none⟩ = some (.string op) := (blk_cell hX2.out 0).trans rfl; clear hE2 o0' o2' a1)
            | (go_at_call 33; (with_reducible refine (truth_calls _ _).mono ?_); rintro e w3 ⟨rfl, ⟨m3, hm3⟩⟩; have hb3 := Aside0.mk hm3; clear hm3)
            | (go_at_call 50; (with_reducible refine (bound_calls w0 _ g vs _ W0 hE2'.out).mono ?_); rintro e w3 ⟨rfl, hE3⟩; have hE3' := Aside0.mk hE3; clear hE3)
            | fail)
          go_ret
          obtain ⟨e1, e2⟩ := Prod.mk.inj hR.out
          rw [← e1, ← e2]
          exact ⟨rfl, (hE2'.out.step (by rw [hb3.out]; exact pw_below_drewN (Below.refl _ _) _))⟩
        · have dy : (ye != 0) = true := by simpa using hy0
          have hy0' := Aside0.mk hy0
          have hR : Aside0 ((0, ye) = (rn, re)) := ⟨by rw [← hres'.out, if_neg (by rw [hop'.out]; simp [show sLess ≠ sAnd from by decide, show sLess ≠ sOr from by decide]), if_pos hy0'.out]⟩
          clear hy0
          go_enter Tryd.func34, Tryd.ntmps34
          go_upto_region 1 with fail
          refine wp_world (fun W hW => ?_)
          obtain ⟨b, hb⟩ : ∃ b, w.heap.size = b := ⟨_, rfl⟩
          obtain ⟨A, c, _, _, _, _, _, hgl⟩ := h'.out.cells
          have hbg : Aside0 (b ≠ g) := ⟨by omega⟩
          have hX : W.heap[w.heap.size]? = some (.cells #[.string op, .nilIface, (.iface t2 u2)] 50 (0, 0)) := by rw [hW]; exact blk_new _ _
          have hEW : Aside0 (Ev w0 g vs 0 W0 W) := ⟨h'.out.step (by rw [hW]; exact below_alloc (Below.refl _ _) _)⟩
          rw [hb] at hX
          rw [hb]
          have o0 : W.cell? ⟨b, 0, none⟩ = some (.string op) := (blk_cell hX 0).trans rfl
          have o1 : W.cell? ⟨b, 1, none⟩ = some .nilIface := (blk_cell hX 1).trans rfl
          have o2 : W.cell? ⟨b, 2, none⟩ = some (.iface t2 u2) := (blk_cell hX 2).trans rfl
          have hX' := Aside0.mk hX
          clear hW hX hgl
          go_upto_region 2 with (first
            | (go_at_call 20; (with_reducible refine (hl'.out _ hEW.out).mono ?_); rintro e w1 ⟨rfl, hE1⟩; have hE1' := Aside0.mk (hEW.out.trans hE1); obtain ⟨A1, c1, _, _, a1, _, _, hgl1⟩ := hE1.cells; have hX1 := Aside0.mk (hE1.blk hX'.out hbg.out); have o0' : w1.cell? ⟨b, 0, none⟩ = some (.string op) := (blk_cell hX1.out 0).trans rfl; have o2' : w1.cell? ⟨b, 2, none⟩ = some (.iface t2 u2) := (blk_cell hX1.out 2).trans rfl; clear hE1)
            | fail)
          clear o0 o1 o2
          go_wp2_with (first
            | (go_at_call 20; (with_reducible refine (hr'.out _ hE1'.out).mono ?_); rintro e w2 ⟨rfl, hE2⟩; have hE2' := Aside0.mk (hE1'.out.trans hE2); obtain ⟨A2, c2, _, _, a2, _, _, hgl2⟩ := hE2.cells; have hX2 := Aside0.mk (hE2.blk hX1.out hbg.out); have o0'' : w2.cell? ⟨b, 0, none⟩ = some (.string op) := (blk_cell hX2.out 0).trans rfl; clear hE2 o0' o2' a1)
            | (go_at_call 33; (with_reducible refine (truth_calls _ _).mono ?_); rintro e w3 ⟨rfl, ⟨m3, hm3⟩⟩; have hb3 := Aside0.mk hm3; clear hm3)
            | (go_at_call 50; (with_reducible refine (bound_calls w0 _ g vs _ W0 hE2'.out).mono ?_); rintro e w3 ⟨rfl, hE3⟩; have hE3' := Aside0.mk hE3; clear hE3)
            | fail)
          go_ret
          obtain ⟨e1, e2⟩ := Prod.mk.inj hR.out
          rw [← e1, ← e2]
          exact ⟨rfl, hE2'.out⟩
      have h4 := Aside0.mk hop
      clear hop
      by_cases hop : op = sLeq
      · have f1 : (op.toList == [43]) = false := by rw [(opF op).p1]; rw [hop]; decide
        have f2 : (op.toList == [45]) = false := by rw [(opF op).p2]; rw [hop]; decide
        have f3 : (op.toList == [42]) = false := by rw [(opF op).p3]; rw [hop]; decide
        have f4 : (op.toList == [60]) = false := by rw [(opF op).p4]; rw [hop]; decide
        have f5 : (op.toList == [60, 61]) = true := by rw [(opF op).p5]; rw [hop]; decide
        have f6 : (op.toList == [61, 61]) = false := by rw [(opF op).p6]; rw [hop]; decide
        have f7 : (op.toList == [33, 61]) = false := by rw [(opF op).p7]; rw [hop]; decide
        have f8 : (op.toList == [38, 38]) = false := by rw [(opF op).p8]; rw [hop]; decide
        have f9 : (op.toList == [124, 124]) = false := by rw [(opF op).p9]; rw [hop]; decide
        have hop' := Aside0.mk hop
        clear hop
        by_cases hy0 : ye = 0
        · subst hy0
          have hR : Aside0 ((tru (decide (xn ≤ yn)), 0) = (rn, re)) := ⟨by rw [← hres'.out, if_neg (by rw [hop'.out]; simp [show sLeq ≠ sAnd from by decide, show sLeq ≠ sOr from by decide]), if_neg (by simp)]; unfold arith; rw [hop'.out]; rfl⟩
          go_enter Tryd.func34, Tryd.ntmps34
          go_upto_region 1 with fail
          refine wp_world (fun W hW => ?_)
          obtain ⟨b, hb⟩ : ∃ b, w.heap.size = b := ⟨_, rfl⟩
          obtain ⟨A, c, _, _, _, _, _, hgl⟩ := h'.out.cells
          have hbg : Aside0 (b ≠ g) := ⟨by omega⟩
          have hX : W.heap[w.heap.size]? = some (.cells #[.string op, .nilIface, (.iface t2 u2)] 50 (0, 0)) := by rw [hW]; exact blk_new _ _
          have hEW : Aside0 (Ev w0 g vs 0 W0 W) := ⟨h'.out.step (by rw [hW]; exact below_alloc (Below.refl _ _) _)⟩
          rw [hb] at hX
          rw [hb]
          have o0 : W.cell? ⟨b, 0, none⟩ = some (.string op) := (blk_cell hX 0).trans rfl
          have o1 : W.cell? ⟨b, 1, none⟩ = some .nilIface := (blk_cell hX 1).trans rfl
          have o2 : W.cell? ⟨b, 2, none⟩ = some (.iface t2 u2) := (blk_cell hX 2).trans rfl
          have hX' := Aside0.mk hX
          clear hW hX hgl
          go_upto_region 2 with (first
            | (go_at_call 20; (with_reducible refine (hl'.out _ hEW.out).mono ?_); rintro e w1 ⟨rfl, hE1⟩; have hE1' := Aside0.mk (hEW.out.trans hE1); obtain ⟨A1, c1, _, _, a1, _, _, hgl1⟩ := hE1.cells; have hX1 := Aside0.mk (hE1.blk hX'.out hbg.out); have o0' : w1.cell? ⟨b, 0, none⟩ = some (.string op) := (blk_cell hX1.out 0).trans rfl; have o2' : w1.cell? ⟨b, 2, none⟩ = some (.iface t2 u2) := (blk_cell hX1.out 2).trans rfl; clear hE1)
            | fail)
          clear o0 o1 o2
          go_wp2_with (first
            | (go_at_call 20; (with_reducible refine (hr'.out _ hE1'.out).mono ?_); rintro e w2 ⟨rfl, hE2⟩; have hE2' := Aside0.mk (hE1'.out.trans hE2); obtain ⟨A2, c2, _, _, a2, _, _, hgl2⟩ := hE2.cells; have hX2 := Aside0.mk (hE2.blk hX1.out hbg.out); have o0'' : w2.cell? ⟨b, 0, none⟩ = some (.string op) := (blk_cell hX2.out 0).trans rfl; clear hE2 o0' o2' a1)
            | (go_at_call 33; (with_reducible refine (truth_calls _ _).mono ?_); rintro e w3 ⟨rfl, ⟨m3, hm3⟩⟩; have hb3 := Aside0.mk hm3; clear hm3)
            | (go_at_call 50; (with_reducible refine (bound_calls w0 _ g vs _ W0 hE2'.out).mono ?_); rintro e w3 ⟨rfl, hE3⟩; have hE3' := Aside0.mk hE3; clear hE3)
            | fail)
          go_ret
          obtain ⟨e1, e2⟩ := Prod.mk.inj hR.out
          rw [← e1, ← e2]
          exact ⟨rfl, (hE2'.out.step (by rw [hb3.out]; exact pw_below_drewN (Below.refl _ _) _))⟩
        · have dy : (ye != 0) = true := by simpa using hy0
          have hy0' := Aside0.mk hy0
          have hR : Aside0 ((0, ye) = (rn, re)) := ⟨by rw [← hres'.out, if_neg (by rw [hop'.out]; simp [show sLeq ≠ sAnd from by decide, show sLeq ≠ sOr from by decide]), if_pos hy0'.out]⟩
          clear hy0
          go_enter Tryd.func34, Tryd.ntmps34
          go_upto_region 1 with fail
          refine wp_world (fun W hW => ?_)
          obtain ⟨b, hb⟩ : ∃ b, w.heap.size = b := ⟨_, rfl⟩
          obtain ⟨A, c, _, _, _, _, _, hgl⟩ := h'.out.cells
          have hbg : Aside0 (b ≠ g) := ⟨by omega⟩
          have hX : W.heap[w.heap.size]? = some (.cells #[.string op, .nilIface, (.iface t2 u2)] 50 (0, 0)) := by rw [hW]; exact blk_new _ _
          have hEW : Aside0 (Ev w0 g vs 0 W0 W) := ⟨h'.out.step (by rw [hW]; exact below_alloc (Below.refl _ _) _)⟩
          rw [hb] at hX
          rw [hb]
          have o0 : W.cell? ⟨b, 0, none⟩ = some (.string op) := (blk_cell hX 0).trans rfl
          have o1 : W.cell? ⟨b, 1, none⟩ = some .nilIface := (blk_cell hX 1).trans rfl
          have o2 : W.cell? ⟨b, 2, none⟩ = some (.iface t2 u2) := (blk_cell hX 2).trans rfl
          have hX' := Aside0.mk hX
          clear hW hX hgl
          go_upto_region 2 with (first
            | (go_at_call 20; (with_reducible refine (hl'.out _ hEW.out).mono ?_); rintro e w1 ⟨rfl, hE1⟩; have hE1' := Aside0.mk (hEW.out.trans hE1); obtain ⟨A1, c1, _, _, a1, _, _, hgl1⟩ := hE1.cells; have hX1 := Aside0.mk (hE1.blk hX'.out hbg.out); have o0' : w1.cell? ⟨b, 0, none⟩ = some (.string op) := (blk_cell hX1.out 0).trans rfl; have o2' : w1.cell? ⟨b, 2, none⟩ = some (.iface t2 u2) := (blk_cell hX1.out 2).trans rfl; clear hE1)
            | fail)
          clear o0 o1 o2
          go_wp2_with (first
            | (go_at_call 20; (with_reducible refine (hr'.out _ hE1'.out).mono ?_); rintro e w2 ⟨rfl, hE2⟩; have hE2' := Aside0.mk (hE1'.out.trans hE2); obtain ⟨A2, c2, _, _, a2, _, _, hgl2⟩ := hE2.cells; have hX2 := Aside0.mk (hE2.blk hX1.out hbg.out); have o0'' : w2.cell? ⟨b, 0, none⟩ = some (.string op) := (blk_cell hX2.out 0).trans rfl; clear hE2 o0' o2' a1)
            | (go_at_call 33; (with_reducible refine (truth_calls _ _).mono ?_); rintro e w3 ⟨rfl, ⟨m3, hm3⟩⟩; have hb3 := Aside0.mk hm3; clear hm3)
            | (go_at_call 50; (with_reducible refine (bound_calls w0 _ g vs _ W0 hE2'.out).mono ?_); rintro e w3 ⟨rfl, hE3⟩; have hE3' := Aside0.mk hE3; clear hE3)
            | fail)
          go_ret
          obtain ⟨e1, e2⟩ := Prod.mk.inj hR.out
          rw [← e1, ← e2]
          exact ⟨rfl, hE2'.out⟩
      have h5 := Aside0.mk hop
      clear hop
      by_cases hop : op = sEq
      · have f1 : (op.toList == [43]) = false := by rw [(opF op).p1]; rw [hop]; decide
        have f2 : (op.toList == [45]) = false := by rw [(opF op).p2]; rw [hop]; decide
        have f3 : (op.toList == [42]) = false := by rw [(opF op).p3]; rw [hop]; decide
        have f4 : (op.toList == [60]) = false := by rw [(opF op).p4]; rw [hop]; decide
        have f5 : (op.toList == [60, 61]) = false := by rw [(opF op).p5]; rw [hop]; decide
        have f6 : (op.toList == [61, 61]) = true := by rw [(opF op).p6]; rw [hop]; decide
        have f7 : (op.toList == [33, 61]) = false := by rw [(opF op).p7]; rw [hop]; decide
        have f8 : (op.toList == [38, 38]) = false := by rw [(opF op).p8]; rw [hop]; decide
        have f9 : (op.toList == [124, 124]) = false := by rw [(opF op).p9]; rw [hop]; decide
        have hop' := Aside0.mk hop
        clear hop
        by_cases hy0 : ye = 0
        · subst hy0
          have hR : Aside0 ((tru (xn == yn), 0) = (rn, re)) := ⟨by rw [← hres'.out, if_neg (by rw [hop'.out]; simp [show sEq ≠ sAnd from by decide, show sEq ≠ sOr from by decide]), if_neg (by simp)]; unfold arith; rw [hop'.out]; rfl⟩
          go_enter Tryd.func34, Tryd.ntmps34
          go_upto_region 1 with fail
          refine wp_world (fun W hW => ?_)
          obtain ⟨b, hb⟩ : ∃ b, w.heap.size = b := ⟨_, rfl⟩
          obtain ⟨A, c, _, _, _, _, _, hgl⟩ := h'.out.cells
          have hbg : Aside0 (b ≠ g) := ⟨by omega⟩
          have hX : W.heap[w.heap.size]? = some (.cells #[.string op, .nilIface, (.iface t2 u2)] 50 (0, 0)) := by rw [hW]; exact blk_new _ _
          have hEW : Aside0 (Ev w0 g vs 0 W0 W) := ⟨h'.out.step (by rw [hW]; exact below_alloc (Below.refl _ _) _)⟩
          rw [hb] at hX
          rw [hb]
          have o0 : W.cell? ⟨b, 0, none⟩ = some (.string op) := (blk_cell hX 0).trans rfl
          have o1 : W.cell? ⟨b, 1, none⟩ = some .nilIface := (blk_cell hX 1).trans rfl
          have o2 : W.cell? ⟨b, 2, none⟩ = some (.iface t2 u2) := (blk_cell hX 2).trans rfl
          have hX' := Aside0.mk hX
          clear hW hX hgl
          go_upto_region 2 with (first
            | (go_at_call 20; (with_reducible refine (hl'.out _ hEW.out).mono ?_); rintro e w1 ⟨rfl, hE1⟩; have hE1' := Aside0.mk (hEW.out.trans hE1); obtain ⟨A1, c1, _, _, a1, _, _, hgl1⟩ := hE1.cells; have hX1 := Aside0.mk (hE1.blk hX'.out hbg.out); have o0' : w1.cell? ⟨b, 0, none⟩ = some (.string op) := (blk_cell hX1.out 0).trans rfl; have o2' : w1.cell? ⟨b, 2, none⟩ = some (.iface t2 u2) := (blk_cell hX1.out 2).trans rfl; clear hE1)
            | fail)
          clear o0 o1 o2
          go_wp2_with (first
            | (go_at_call 20; (with_reducible refine (hr'.out _ hE1'.out).mono ?_); rintro e w2 ⟨rfl, hE2⟩; have hE2' := Aside0.mk (hE1'.out.trans hE2); obtain ⟨A2, c2, _, _, a2, _, _, hgl2⟩ := hE2.cells; have hX2 := Aside0.mk (hE2.blk hX1.out hbg.out); have o0'' : w2.cell? ⟨b, 0, none⟩ = some (.string op) := (blk_cell hX2.out 0).trans rfl; clear hE2 o0' o2' a1)
            | (go_at_call 33; (with_reducible refine (truth_calls _ _).mono ?_); rintro e w3 ⟨rfl, ⟨m3, hm3⟩⟩; have hb3 := Aside0.mk hm3; clear hm3)
            | (go_at_call 50; (with_reducible refine (bound_calls w0 _ g vs _ W0 hE2'.out).mono ?_); rintro e w3 ⟨rfl, hE3⟩; have hE3' := Aside0.mk hE3; clear hE3)
            | fail)
          go_ret
          obtain ⟨e1, e2⟩ := Prod.mk.inj hR.out
          rw [← e1, ← e2]
          exact ⟨rfl, (hE2'.out.step (by rw [hb3.out]; exact pw_below_drewN (Below.refl _ _) _))⟩
        · have dy : (ye != 0) = true := by simpa using hy0
          have hy0' := Aside0.mk hy0
          have hR : Aside0 ((0, ye) = (rn, re)) := ⟨by rw [← hres'.out, if_neg (by rw [hop'.out]; simp [show sEq ≠ sAnd from by decide, show sEq ≠ sOr from by decide]), if_pos hy0'.out]⟩
          clear hy0
          go_enter Tryd.func34, Tryd.ntmps34
          go_upto_region 1 with fail
          refine wp_world (fun W hW => ?_)
          obtain ⟨b, hb⟩ : ∃ b, w.heap.size = b := ⟨_, rfl⟩
          obtain ⟨A, c, _, _, _, _, _, hgl⟩ := h'.out.cells
          have hbg : Aside0 (b ≠ g) := ⟨by omega⟩
          have hX : W.heap[w.heap.size]? = some (.cells #[.string op, .nilIface, (.iface t2 u2)] 50 (0, 0)) := by rw [hW]; exact blk_new _ _
          have hEW : Aside0 (Ev w0 g vs 0 W0 W) := ⟨h'.out.step (by rw [hW]; exact below_alloc (Below.refl _ _) _)⟩
          rw [hb] at hX
          rw [hb]
          have o0 : W.cell? ⟨b, 0, none⟩ = some (.string op) := (blk_cell hX 0).trans rfl
          have o1 : W.cell? ⟨b, 1, none⟩ = some .nilIface := (blk_cell hX 1).trans rfl
          have o2 : W.cell? ⟨b, 2, none⟩ = some (.iface t2 u2) := (blk_cell hX 2).trans rfl
          have hX' := Aside0.mk hX
          clear hW hX hgl
          go_upto_region 2 with (first
            | (go_at_call 20; (with_reducible refine (hl'.out _ hEW.out).mono ?_); rintro e w1 ⟨rfl, hE1⟩; have hE1' := Aside0.mk (hEW.out.trans hE1); obtain ⟨A1, c1, _, _, a1, _, _, hgl1⟩ := hE1.cells; have hX1 := Aside0.mk (hE1.blk hX'.out hbg.out); have o0' : w1.cell? ⟨b, 0, none⟩ = some (.string op) := (blk_cell hX1.out 0).trans rfl; have o2' : w1.cell? ⟨b, 2, none⟩ = some (.iface t2 u2) := (blk_cell hX1.out 2).trans rfl; clear hE1)
            | fail)
          clear o0 o1 o2
          go_wp2_with (first
            | (go_at_call 20; (with_reducible refine (hr'.out _ hE1'.out).mono ?_); rintro e w2 ⟨rfl, hE2⟩; have hE2' := Aside0.mk (hE1'.out.trans hE2); obtain ⟨A2, c2, _, _, a2, _, _, hgl2⟩ := hE2.cells; have hX2 := Aside0.mk (hE2.blk hX1.out hbg.out); have o0'' : w2.cell? ⟨b, 0, none⟩ = some (.string op) := (blk_cell hX2.out 0).trans rfl; clear hE2 o0' o2' a1)
            | (go_at_call 33; (with_reducible refine (truth_calls _ _).mono ?_); rintro e w3 ⟨rfl, ⟨m3, hm3⟩⟩; have hb3 := Aside0.mk hm3; clear hm3)
            | (go_at_call 50; (with_reducible refine (bound_calls w0 _ g vs _ W0 hE2'.out).mono ?_); rintro e w3 ⟨rfl, hE3⟩; have hE3' := Aside0.mk hE3; clear hE3)
            | fail)
          go_ret
          obtain ⟨e1, e2⟩ := Prod.mk.inj hR.out
          rw [← e1, ← e2]
          exact ⟨rfl, hE2'.out⟩
      have h6 := Aside0.mk hop
      clear hop
      by_cases hop : op = sNe
      · have f1 : (op.toList == [43]) = false := by rw [(opF op).p1]; rw [hop]; decide
        have f2 : (op.toList == [45]) = false := by rw [(opF op).p2]; rw [hop]; decide
        have f3 : (op.toList == [42]) = false := by rw [(opF op).p3]; rw [hop]; decide
        have f4 : (op.toList == [60]) = false := by rw [(opF op).p4]; rw [hop]; decide
        have f5 : (op.toList == [60, 61]) = false := by rw [(opF op).p5]; rw [hop]; decide
        have f6 : (op.toList == [61, 61]) = false := by rw [(opF op).p6]; rw [hop]; decide
        have f7 : (op.toList == [33, 61]) = true := by rw [(opF op).p7]; rw [hop]; decide
        have f8 : (op.toList == [38, 38]) = false := by rw [(opF op).p8]; rw [hop]; decide
        have f9 : (op.toList == [124, 124]) = false := by rw [(opF op).p9]; rw [hop]; decide
        have hop' := Aside0.mk hop
        clear hop
        by_cases hy0 : ye = 0
        · subst hy0
          have hR : Aside0 ((tru (xn != yn), 0) = (rn, re)) := ⟨by rw [← hres'.out, if_neg (by rw [hop'.out]; simp [show sNe ≠ sAnd from by decide, show sNe ≠ sOr from by decide]), if_neg (by simp)]; unfold arith; rw [hop'.out]; rfl⟩
          go_enter Tryd.func34, Tryd.ntmps34
          go_upto_region 1 with fail
          refine wp_world (fun W hW => ?_)
          obtain ⟨b, hb⟩ : ∃ b, w.heap.size = b := ⟨_, rfl⟩
          obtain ⟨A, c, _, _, _, _, _, hgl⟩ := h'.out.cells
          have hbg : Aside0 (b ≠ g) := ⟨by omega⟩
          have hX : W.heap[w.heap.size]? = some (.cells #[.string op, .nilIface, (.iface t2 u2)] 50 (0, 0)) := by rw [hW]; exact blk_new _ _
          have hEW : Aside0 (Ev w0 g vs 0 W0 W) := ⟨h'.out.step (by rw [hW]; exact below_alloc (Below.refl _ _) _)⟩
          rw [hb] at hX
          rw [hb]
          have o0 : W.cell? ⟨b, 0, none⟩ = some (.string op) := (blk_cell hX 0).trans rfl
          have o1 : W.cell? ⟨b, 1, none⟩ = some .nilIface := (blk_cell hX 1).trans rfl
          have o2 : W.cell? ⟨b, 2, none⟩ = some (.iface t2 u2) := (blk_cell hX 2).trans rfl
          have hX' := Aside0.mk hX
          clear hW hX hgl
          go_upto_region 2 with (first
            | (go_at_call 20; (with_reducible refine (hl'.out _ hEW.out).mono ?_); rintro e w1 ⟨rfl, hE1⟩; have hE1' := Aside0.mk (hEW.out.trans hE1); obtain ⟨A1, c1, _, _, a1, _, _, hgl1⟩ := hE1.cells; have hX1 := Aside0.mk (hE1.blk hX'.out hbg.out); have o0' : w1.cell? ⟨b, 0, none⟩ = some (.string op) := (blk_cell hX1.out 0).trans rfl; have o2' : w1.cell? ⟨b, 2, none⟩ = some (.iface t2 u2) := (blk_cell hX1.out 2).trans rfl; clear hE1)
            | fail)
          clear o0 o1 o2
          go_wp2_with (first
            | (go_at_call 20; (with_reducible refine (hr'.out _ hE1'.out).mono ?_); rintro e w2 ⟨rfl, hE2⟩; have hE2' := Aside0.mk (hE1'.out.trans hE2); obtain ⟨A2, c2, _, _, a2, _, _, hgl2⟩ := hE2.cells; have hX2 := Aside0.mk (hE2.blk hX1.out hbg.out); have o0'' : w2.cell? ⟨b, 0, none⟩ = some (.string op) := (blk_cell hX2.out 0).trans rfl; clear hE2 o0' o2' a1)
            | (go_at_call 33; (with_reducible refine (truth_calls _ _).mono ?_); rintro e w3 ⟨rfl, ⟨m3, hm3⟩⟩; have hb3 := Aside0.mk hm3; clear hm3)
            | (go_at_call 50; (with_reducible refine (bound_calls w0 _ g vs _ W0 hE2'.out).mono ?_); rintro e w3 ⟨rfl, hE3⟩; have hE3' := Aside0.mk hE3; clear hE3)
            | fail)
          go_ret
          obtain ⟨e1, e2⟩ := Prod.mk.inj hR.out
          rw [← e1, ← e2]
          exact ⟨rfl, (hE2'.out.step (by rw [hb3.out]; exact pw_below_drewN (Below.refl _ _) _))⟩
        · have dy : (ye != 0) = true := by simpa using hy0
          have hy0' := Aside0.mk hy0
          have hR : Aside0 ((0, ye) = (rn, re)) := ⟨by rw [← hres'.out, if_neg (by rw [hop'.out]; simp [show sNe ≠ sAnd from by decide, show sNe ≠ sOr from by decide]), if_pos hy0'.out]⟩
          clear hy0
          go_enter Tryd.func34, Tryd.ntmps34
          go_upto_region 1 with fail
          refine wp_world (fun W hW => ?_)
          obtain ⟨b, hb⟩ : ∃ b, w.heap.size = b := ⟨_, rfl⟩
          obtain ⟨A, c, _, _, _, _, _, hgl⟩ := h'.out.cells
          have hbg : Aside0 (b ≠ g) := ⟨by omega⟩
          have hX : W.heap[w.heap.size]? = some (.cells #[.string op, .nilIface, (.iface t2 u2)] 50 (0, 0)) := by rw [hW]; exact blk_new _ _
          have hEW : Aside0 (Ev w0 g vs 0 W0 W) := ⟨h'.out.step (by rw [hW]; exact below_alloc (Below.refl _ _) _)⟩
          rw [hb] at hX
          rw [hb]
          have o0 : W.cell? ⟨b, 0, none⟩ = some (.string op) := (blk_cell hX 0).trans rfl
          have o1 : W.cell? ⟨b, 1, none⟩ = some .nilIface := (blk_cell hX 1).trans rfl
          have o2 : W.cell? ⟨b, 2, none⟩ = some (.iface t2 u2) := (blk_cell hX 2).trans rfl
          have hX' := Aside0.mk hX
          clear hW hX hgl
          go_upto_region 2 with (first
            | (go_at_call 20; (with_reducible refine (hl'.out _ hEW.out).mono ?_); rintro e w1 ⟨rfl, hE1⟩; have hE1' := Aside0.mk (hEW.out.trans hE1); obtain ⟨A1, c1, _, _, a1, _, _, hgl1⟩ := hE1.cells; have hX1 := Aside0.mk (hE1.blk hX'.out hbg.out); have o0' : w1.cell? ⟨b, 0, none⟩ = some (.string op) := (blk_cell hX1.out 0).trans rfl; have o2' : w1.cell? ⟨b, 2, none⟩ = some (.iface t2 u2) := (blk_cell hX1.out 2).trans rfl; clear hE1)
            | fail)
          clear o0 o1 o2
          go_wp2_with (first
            | (go_at_call 20; (with_reducible refine (hr'.out _ hE1'.out).mono ?_); rintro e w2 ⟨rfl, hE2⟩; have hE2' := Aside0.mk (hE1'.out.trans hE2); obtain ⟨A2, c2, _, _, a2, _, _, hgl2⟩ := hE2.cells; have hX2 := Aside0.mk (hE2.blk hX1.out hbg.out); have o0'' : w2.cell? ⟨b, 0, none⟩ = some (.string op) := (blk_cell hX2.out 0).trans rfl; clear hE2 o0' o2' a1)
            | (go_at_call 33; (with_reducible refine (truth_calls _ _).mono ?_); rintro e w3 ⟨rfl, ⟨m3, hm3⟩⟩; have hb3 := Aside0.mk hm3; clear hm3)
            | (go_at_call 50; (with_reducible refine (bound_calls w0 _ g vs _ W0 hE2'.out).mono ?_); rintro e w3 ⟨rfl, hE3⟩; have hE3' := Aside0.mk hE3; clear hE3)
            | fail)
          go_ret
          obtain ⟨e1, e2⟩ := Prod.mk.inj hR.out
          rw [← e1, ← e2]
          exact ⟨rfl, hE2'.out⟩
      have h7 := Aside0.mk hop
      clear hop
      by_cases hop : op = sAnd
      · have f1 : (op.toList == [43]) = false := by rw [(opF op).p1]; rw [hop]; decide
        have f2 : (op.toList == [45]) = false := by rw [(opF op).p2]; rw [hop]; decide
        have f3 : (op.toList == [42]) = false := by rw [(opF op).p3]; rw [hop]; decide
        have f4 : (op.toList == [60]) = false := by rw [(opF op).p4]; rw [hop]; decide
        have f5 : (op.toList == [60, 61]) = false := by rw [(opF op).p5]; rw [hop]; decide
        have f6 : (op.toList == [61, 61]) = false := by rw [(opF op).p6]; rw [hop]; decide
        have f7 : (op.toList == [33, 61]) = false := by rw [(opF op).p7]; rw [hop]; decide
        have f8 : (op.toList == [38, 38]) = true := by rw [(opF op).p8]; rw [hop]; decide
        have f9 : (op.toList == [124, 124]) = false := by rw [(opF op).p9]; rw [hop]; decide
        have hop' := Aside0.mk hop
        clear hop
        by_cases hq : xn = 0
        · subst hq
          have hR : Aside0 ((tru ((0 : Int) != 0), 0) = (rn, re)) := ⟨by rw [← hres'.out, if_pos (Or.inr (Or.inl ⟨hop'.out, rfl⟩))]⟩
          go_enter Tryd.func34, Tryd.ntmps34
          go_upto_region 1 with fail
          refine wp_world (fun W hW => ?_)
          obtain ⟨b, hb⟩ : ∃ b, w.heap.size = b := ⟨_, rfl⟩
          obtain ⟨A, c, _, _, _, _, _, hgl⟩ := h'.out.cells
          have hbg : Aside0 (b ≠ g) := ⟨by omega⟩
          have hX : W.heap[w.heap.size]? = some (.cells #[.string op, .nilIface, (.iface t2 u2)] 50 (0, 0)) := by rw [hW]; exact blk_new _ _
          have hEW : Aside0 (Ev w0 g vs 0 W0 W) := ⟨h'.out.step (by rw [hW]; exact below_alloc (Below.refl _ _) _)⟩
          rw [hb] at hX
          rw [hb]
          have o0 : W.cell? ⟨b, 0, none⟩ = some (.string op) := (blk_cell hX 0).trans rfl
          have o1 : W.cell? ⟨b, 1, none⟩ = some .nilIface := (blk_cell hX 1).trans rfl
          have o2 : W.cell? ⟨b, 2, none⟩ = some (.iface t2 u2) := (blk_cell hX 2).trans rfl
          have hX' := Aside0.mk hX
          clear hW hX hgl
          go_upto_region 2 with (first
            | (go_at_call 20; (with_reducible refine (hl'.out _ hEW.out).mono ?_); rintro e w1 ⟨rfl, hE1⟩; have hE1' := Aside0.mk (hEW.out.trans hE1); obtain ⟨A1, c1, _, _, a1, _, _, hgl1⟩ := hE1.cells; have hX1 := Aside0.mk (hE1.blk hX'.out hbg.out); have o0' : w1.cell? ⟨b, 0, none⟩ = some (.string op) := (blk_cell hX1.out 0).trans rfl; have o2' : w1.cell? ⟨b, 2, none⟩ = some (.iface t2 u2) := (blk_cell hX1.out 2).trans rfl; clear hE1)
            | fail)
          clear o0 o1 o2
          go_wp2_with (first
            | (go_at_call 20; (with_reducible refine (hr'.out _ hE1'.out).mono ?_); rintro e w2 ⟨rfl, hE2⟩; have hE2' := Aside0.mk (hE1'.out.trans hE2); obtain ⟨A2, c2, _, _, a2, _, _, hgl2⟩ := hE2.cells; have hX2 := Aside0.mk (hE2.blk hX1.out hbg.out); have o0'' : w2.cell? ⟨b, 0, none⟩ = some (.string op) := (blk_cell hX2.out 0).trans rfl; clear hE2 o0' o2' a1)
            | (go_at_call 33; (with_reducible refine (truth_calls _ _).mono ?_); rintro e w3 ⟨rfl, ⟨m3, hm3⟩⟩; have hb3 := Aside0.mk hm3; clear hm3)
            | (go_at_call 50; (with_reducible refine (bound_calls w0 _ g vs _ W0 hE2'.out).mono ?_); rintro e w3 ⟨rfl, hE3⟩; have hE3' := Aside0.mk hE3; clear hE3)
            | fail)
          go_ret
          obtain ⟨e1, e2⟩ := Prod.mk.inj hR.out
          rw [← e1, ← e2]
          exact ⟨rfl, (hE1'.out.step (by rw [hb3.out]; exact pw_below_drewN (Below.refl _ _) _))⟩
        · have dq : (xn == 0) = false := by simpa using hq
          have hq' := Aside0.mk hq
          clear hq
          by_cases hy0 : ye = 0
          · subst hy0
            have hR : Aside0 ((tru (yn != 0), 0) = (rn, re)) := ⟨by rw [← hres'.out, if_neg (by rw [hop'.out]; simp [hq'.out, show sAnd ≠ sOr from by decide]), if_neg (by simp)]; unfold arith; rw [hop'.out]; rfl⟩
            go_enter Tryd.func34, Tryd.ntmps34
            go_upto_region 1 with fail
            refine wp_world (fun W hW => ?_)
            obtain ⟨b, hb⟩ : ∃ b, w.heap.size = b := ⟨_, rfl⟩
            obtain ⟨A, c, _, _, _, _, _, hgl⟩ := h'.out.cells
            have hbg : Aside0 (b ≠ g) := ⟨by omega⟩
            have hX : W.heap[w.heap.size]? = some (.cells #[.string op, .nilIface, (.iface t2 u2)] 50 (0, 0)) := by rw [hW]; exact blk_new _ _
            have hEW : Aside0 (Ev w0 g vs 0 W0 W) := ⟨h'.out.step (by rw [hW]; exact below_alloc (Below.refl _ _) _)⟩
            rw [hb] at hX
            rw [hb]
            have o0 : W.cell? ⟨b, 0, none⟩ = some (.string op) := (blk_cell hX 0).trans rfl
            have o1 : W.cell? ⟨b, 1, none⟩ = some .nilIface := (blk_cell hX 1).trans rfl
            have o2 : W.cell? ⟨b, 2, none⟩ = some (.iface t2 u2) := (blk_cell hX 2).trans rfl
            have hX' := Aside0.mk hX
            clear hW hX hgl
            go_upto_region 2 with (first
              | (go_at_call 20; (with_reducible refine (hl'.out _ hEW.out).mono ?_); rintro e w1 ⟨rfl, hE1⟩; have hE1' := Aside0.mk (hEW.out.trans hE1); obtain ⟨A1, c1, _, _, a1, _, _, hgl1⟩ := hE1.cells; have hX1 := Aside0.mk (hE1.blk hX'.out hbg.out); have o0' : w1.cell? ⟨b, 0, none⟩ = some (.string op) := (blk_cell hX1.out 0).trans rfl; have o2' : w1.cell? ⟨b, 2, none⟩ = some (.iface t2 u2) := (blk_cell hX1.out 2).trans rfl; clear hE1)
              | fail)
            clear o0 o1 o2
            go_wp2_with (first
              | (go_at_call 20; (with_reducible refine (hr'.out _ hE1'.out).mono ?_); rintro e w2 ⟨rfl, hE2⟩; have hE2' := Aside0.mk (hE1'.out.trans hE2); obtain ⟨A2, c2, _, _, a2, _, _, hgl2⟩ := hE2.cells; have hX2 := Aside0.mk (hE2.blk hX1.out hbg.out); have o0'' : w2.cell? ⟨b, 0, none⟩ = some (.string op) := (blk_cell hX2.out 0).trans rfl; clear hE2 o0' o2' a1)
              | (go_at_call 33; (with_reducible refine (truth_calls _ _).mono ?_); rintro e w3 ⟨rfl, ⟨m3, hm3⟩⟩; have hb3 := Aside0.mk hm3; clear hm3)
              | (go_at_call 50; (with_reducible refine (bound_calls w0 _ g vs _ W0 hE2'.out).mono ?_); rintro e w3 ⟨rfl, hE3⟩; have hE3' := Aside0.mk hE3; clear hE3)
              | fail)
            go_ret
            obtain ⟨e1, e2⟩ := Prod.mk.inj hR.out
            rw [← e1, ← e2]
            exact ⟨rfl, (hE2'.out.step (by rw [hb3.out]; exact pw_below_drewN (Below.refl _ _) _))⟩
          · have dy : (ye != 0) = true := by simpa using hy0
            have hy0' := Aside0.mk hy0
            have hR : Aside0 ((0, ye) = (rn, re)) := ⟨by rw [← hres'.out, if_neg (by rw [hop'.out]; simp [hq'.out, show sAnd ≠ sOr from by decide]), if_pos hy0'.out]⟩
            clear hy0
            go_enter Tryd.func34, Tryd.ntmps34
            go_upto_region 1 with fail
            refine wp_world (fun W hW => ?_)
            obtain ⟨b, hb⟩ : ∃ b, w.heap.size = b := ⟨_, rfl⟩
            obtain ⟨A, c, _, _, _, _, _, hgl⟩ := h'.out.cells
            have hbg : Aside0 (b ≠ g) := ⟨by omega⟩
            have hX : W.heap[w.heap.size]? = some (.cells #[.string op, .nilIface, (.iface t2 u2)] 50 (0, 0)) := by rw [hW]; exact blk_new _ _
            have hEW : Aside0 (Ev w0 g vs 0 W0 W) := ⟨h'.out.step (by rw [hW]; exact below_alloc (Below.refl _ _) _)⟩
            rw [hb] at hX
            rw [hb]
            have o0 : W.cell? ⟨b, 0, none⟩ = some (.string op) := (blk_cell hX 0).trans rfl
            have o1 : W.cell? ⟨b, 1, none⟩ = some .nilIface := (blk_cell hX 1).trans rfl
            have o2 : W.cell? ⟨b, 2, none⟩ = some (.iface t2 u2) := (blk_cell hX 2).trans rfl
            have hX' := Aside0.mk hX
            clear hW hX hgl
            go_upto_region 2 with (first
              | (go_at_call 20; (with_reducible refine (hl'.out _ hEW.out).mono ?_); rintro e w1 ⟨rfl, hE1⟩; have hE1' := Aside0.mk (hEW.out.trans hE1); obtain ⟨A1, c1, _, _, a1, _, _, hgl1⟩ := hE1.cells; have hX1 := Aside0.mk (hE1.blk hX'.out hbg.out); have o0' : w1.cell? ⟨b, 0, none⟩ = some (.string op) := (blk_cell hX1.out 0).trans rfl; have o2' : w1.cell? ⟨b, 2, none⟩ = some (.iface t2 u2) := (blk_cell hX1.out 2).trans rfl; clear hE1)
              | fail)
            clear o0 o1 o2
            go_wp2_with (first
              | (go_at_call 20; (with_reducible refine (hr'.out _ hE1'.out).mono ?_); rintro e w2 ⟨rfl, hE2⟩; have hE2' := Aside0.mk (hE1'.out.trans hE2); obtain ⟨A2, c2, _, _, a2, _, _, hgl2⟩ := hE2.cells; have hX2 := Aside0.mk (hE2.blk hX1.out hbg.out); have o0'' : w2.cell? ⟨b, 0, none⟩ = some (.string op) := (blk_cell hX2.out 0).trans rfl; clear hE2 o0' o2' a1)
              | (go_at_call 33; (with_reducible refine (truth_calls _ _).mono ?_); rintro e w3 ⟨rfl, ⟨m3, hm3⟩⟩; have hb3 := Aside0.mk hm3; clear hm3)
              | (go_at_call 50; (with_reducible refine (bound_calls w0 _ g vs _ W0 hE2'.out).mono ?_); rintro e w3 ⟨rfl, hE3⟩; have hE3' := Aside0.mk hE3; clear hE3)
              | fail)
            go_ret
            obtain ⟨e1, e2⟩ := Prod.mk.inj hR.out
            rw [← e1, ← e2]
            exact ⟨rfl, hE2'.out⟩
      have h8 := Aside0.mk hop
      clear hop
      by_cases hop : op = sOr
      · have f1 : (op.toList == [43]) = false := by rw [(opF op).p1]; rw [hop]; decide
        have f2 : (op.toList == [45]) = false := by rw [(opF op).p2]; rw [hop]; decide
        have f3 : (op.toList == [42]) = false := by rw [(opF op).p3]; rw [hop]; decide
        have f4 : (op.toList == [60]) = false := by rw [(opF op).p4]; rw [hop]; decide
        have f5 : (op.toList == [60, 61]) = false := by rw [(opF op).p5]; rw [hop]; decide
        have f6 : (op.toList == [61, 61]) = false := by rw [(opF op).p6]; rw [hop]; decide
        have f7 : (op.toList == [33, 61]) = false := by rw [(opF op).p7]; rw [hop]; decide
        have f8 : (op.toList == [38, 38]) = false := by rw [(opF op).p8]; rw [hop]; decide
        have f9 : (op.toList == [124, 124]) = true := by rw [(opF op).p9]; rw [hop]; decide
        have hop' := Aside0.mk hop
        clear hop
        by_cases hq : xn = 0
        · subst hq
          by_cases hy0 : ye = 0
          · subst hy0
            have hR : Aside0 ((tru (yn != 0), 0) = (rn, re)) := ⟨by rw [← hres'.out, if_neg (by rw [hop'.out]; simp [show sOr ≠ sAnd from by decide]), if_neg (by simp)]; unfold arith; rw [hop'.out]; rfl⟩
            go_enter Tryd.func34, Tryd.ntmps34
            go_upto_region 1 with fail
            refine wp_world (fun W hW => ?_)
            obtain ⟨b, hb⟩ : ∃ b, w.heap.size = b := ⟨_, rfl⟩
            obtain ⟨A, c, _, _, _, _, _, hgl⟩ := h'.out.cells
            have hbg : Aside0 (b ≠ g) := ⟨by omega⟩
            have hX : W.heap[w.heap.size]? = some (.cells #[.string op, .nilIface, (.iface t2 u2)] 50 (0, 0)) := by rw [hW]; exact blk_new _ _
            have hEW : Aside0 (Ev w0 g vs 0 W0 W) := ⟨h'.out.step (by rw [hW]; exact below_alloc (Below.refl _ _) _)⟩
            rw [hb] at hX
            rw [hb]
            have o0 : W.cell? ⟨b, 0, none⟩ = some (.string op) := (blk_cell hX 0).trans rfl
            have o1 : W.cell? ⟨b, 1, none⟩ = some .nilIface := (blk_cell hX 1).trans rfl
            have o2 : W.cell? ⟨b, 2, none⟩ = some (.iface t2 u2) := (blk_cell hX 2).trans rfl
            have hX' := Aside0.mk hX
            clear hW hX hgl
            go_upto_region 2 with (first
              | (go_at_call 20; (with_reducible refine (hl'.out _ hEW.out).mono ?_); rintro e w1 ⟨rfl, hE1⟩; have hE1' := Aside0.mk (hEW.out.trans hE1); obtain ⟨A1, c1, _, _, a1, _, _, hgl1⟩ := hE1.cells; have hX1 := Aside0.mk (hE1.blk hX'.out hbg.out); have o0' : w1.cell? ⟨b, 0, none⟩ = some (.string op) := (blk_cell hX1.out 0).trans rfl; have o2' : w1.cell? ⟨b, 2, none⟩ = some (.iface t2 u2) := (blk_cell hX1.out 2).trans rfl; clear hE1)
              | fail)
            clear o0 o1 o2
            go_wp2_with (first
              | (go_at_call 20; (with_reducible refine (hr'.out _ hE1'.out).mono ?_); rintro e w2 ⟨rfl, hE2⟩; have hE2' := Aside0.mk (hE1'.out.trans hE2); obtain ⟨A2, c2, _, _, a2, _, _, hgl2⟩ := hE2.cells; have hX2 := Aside0.mk (hE2.blk hX1.out hbg.out); have o0'' : w2.cell? ⟨b, 0, none⟩ = some (.string op) := (blk_cell hX2.out 0).trans rfl; clear hE2 o0' o2' a1)
              | (go_at_call 33; (with_reducible refine (truth_calls _ _).mono ?_); rintro e w3 ⟨rfl, ⟨m3, hm3⟩⟩; have hb3 := Aside0.mk hm3; clear hm3)
              | (go_at_call 50; (with_reducible refine (bound_calls w0 _ g vs _ W0 hE2'.out).mono ?_); rintro e w3 ⟨rfl, hE3⟩; have hE3' := Aside0.mk hE3; clear hE3)
              | fail)
            go_ret
            obtain ⟨e1, e2⟩ := Prod.mk.inj hR.out
            rw [← e1, ← e2]
            exact ⟨rfl, (hE2'.out.step (by rw [hb3.out]; exact pw_below_drewN (Below.refl _ _) _))⟩
          · have dy : (ye != 0) = true := by simpa using hy0
            have hy0' := Aside0.mk hy0
            have hR : Aside0 ((0, ye) = (rn, re)) := ⟨by rw [← hres'.out, if_neg (by rw [hop'.out]; simp [show sOr ≠ sAnd from by decide]), if_pos hy0'.out]⟩
            clear hy0
            go_enter Tryd.func34, Tryd.ntmps34
            go_upto_region 1 with fail
            refine wp_world (fun W hW => ?_)
            obtain ⟨b, hb⟩ : ∃ b, w.heap.size = b := ⟨_, rfl⟩
            obtain ⟨A, c, _, _, _, _, _, hgl⟩ := h'.out.cells
            have hbg : Aside0 (b ≠ g) := ⟨by omega⟩
            have hX : W.heap[w.heap.size]? = some (.cells #[.string op, .nilIface, (.iface t2 u2)] 50 (0, 0)) := by rw [hW]; exact blk_new _ _
            have hEW : Aside0 (Ev w0 g vs 0 W0 W) := ⟨h'.out.step (by rw [hW]; exact below_alloc (Below.refl _ _) _)⟩
            rw [hb] at hX
            rw [hb]
            have o0 : W.cell? ⟨b, 0, none⟩ = some (.string op) := (blk_cell hX 0).trans rfl
            have o1 : W.cell? ⟨b, 1, none⟩ = some .nilIface := (blk_cell hX 1).trans rfl
            have o2 : W.cell? ⟨b, 2, none⟩ = some (.iface t2 u2) := (blk_cell hX 2).trans rfl
            have hX' := Aside0.mk hX
            clear hW hX hgl
            go_upto_region 2 with (first
              | (go_at_call 20; (with_reducible refine (hl'.out _ hEW.out).mono ?_); rintro e w1 ⟨rfl, hE1⟩; have hE1' := Aside0.mk (hEW.out.trans hE1); obtain ⟨A1, c1, _, _, a1, _, _, hgl1⟩ := hE1.cells; have hX1 := Aside0.mk (hE1.blk hX'.out hbg.out); have o0' : w1.cell? ⟨b, 0, none⟩ = some (.string op) := (blk_cell hX1.out 0).trans rfl; have o2' : w1.cell? ⟨b, 2, none⟩ = some (.iface t2 u2) := (blk_cell hX1.out 2).trans rfl; clear hE1)
              | fail)
            clear o0 o1 o2
            go_wp2_with (first
              | (go_at_call 20; (with_reducible refine (hr'.out _ hE1'.out).mono ?_); rintro e w2 ⟨rfl, hE2⟩; have hE2' := Aside0.mk (hE1'.out.trans hE2); obtain ⟨A2, c2, _, _, a2, _, _, hgl2⟩ := hE2.cells; have hX2 := Aside0.mk (hE2.blk hX1.out hbg.out); have o0'' : w2.cell? ⟨b, 0, none⟩ = some (.string op) := (blk_cell hX2.out 0).trans rfl; clear hE2 o0' o2' a1)
              | (go_at_call 33; (with_reducible refine (truth_calls _ _).mono ?_); rintro e w3 ⟨rfl, ⟨m3, hm3⟩⟩; have hb3 := Aside0.mk hm3; clear hm3)
              | (go_at_call 50; (with_reducible refine (bound_calls w0 _ g vs _ W0 hE2'.out).mono ?_); rintro e w3 ⟨rfl, hE3⟩; have hE3' := Aside0.mk hE3; clear hE3)
              | fail)
            go_ret
            obtain ⟨e1, e2⟩ := Prod.mk.inj hR.out
            rw [← e1, ← e2]
            exact ⟨rfl, hE2'.out⟩
        · have dq : (xn != 0) = true := by simpa using hq
          have hq' := Aside0.mk hq
          clear hq
          have hR : Aside0 ((tru true, 0) = (rn, re)) := ⟨by rw [← hres'.out, if_pos (Or.inr (Or.inr ⟨hop'.out, hq'.out⟩)), dq]⟩
          go_enter Tryd.func34, Tryd.ntmps34
          go_upto_region 1 with fail
          refine wp_world (fun W hW => ?_)
          obtain ⟨b, hb⟩ : ∃ b, w.heap.size = b := ⟨_, rfl⟩
          obtain ⟨A, c, _, _, _, _, _, hgl⟩ := h'.out.cells
          have hbg : Aside0 (b ≠ g) := ⟨by omega⟩
          have hX : W.heap[w.heap.size]? = some (.cells #[.string op, .nilIface, (.iface t2 u2)] 50 (0, 0)) := by rw [hW]; exact blk_new _ _
          have hEW : Aside0 (Ev w0 g vs 0 W0 W) := ⟨h'.out.step (by rw [hW]; exact below_alloc (Below.refl _ _) _)⟩
          rw [hb] at hX
          rw [hb]
          have o0 : W.cell? ⟨b, 0, none⟩ = some (.string op) := (blk_cell hX 0).trans rfl
          have o1 : W.cell? ⟨b, 1, none⟩ = some .nilIface := (blk_cell hX 1).trans rfl
          have o2 : W.cell? ⟨b, 2, none⟩ = some (.iface t2 u2) := (blk_cell hX 2).trans rfl
          have hX' := Aside0.mk hX
          clear hW hX hgl
          go_upto_region 2 with (first
            | (go_at_call 20; (with_reducible refine (hl'.out _ hEW.out).mono ?_); rintro e w1 ⟨rfl, hE1⟩; have hE1' := Aside0.mk (hEW.out.trans hE1); obtain ⟨A1, c1, _, _, a1, _, _, hgl1⟩ := hE1.cells; have hX1 := Aside0.mk (hE1.blk hX'.out hbg.out); have o0' : w1.cell? ⟨b, 0, none⟩ = some (.string op) := (blk_cell hX1.out 0).trans rfl; have o2' : w1.cell? ⟨b, 2, none⟩ = some (.iface t2 u2) := (blk_cell hX1.out 2).trans rfl; clear hE1)
            | fail)
          clear o0 o1 o2
          go_wp2_with (first
            | (go_at_call 20; (with_reducible refine (hr'.out _ hE1'.out).mono ?_); rintro e w2 ⟨rfl, hE2⟩; have hE2' := Aside0.mk (hE1'.out.trans hE2); obtain ⟨A2, c2, _, _, a2, _, _, hgl2⟩ := hE2.cells; have hX2 := Aside0.mk (hE2.blk hX1.out hbg.out); have o0'' : w2.cell? ⟨b, 0, none⟩ = some (.string op) := (blk_cell hX2.out 0).trans rfl; clear hE2 o0' o2' a1)
            | (go_at_call 33; (with_reducible refine (truth_calls _ _).mono ?_); rintro e w3 ⟨rfl, ⟨m3, hm3⟩⟩; have hb3 := Aside0.mk hm3; clear hm3)
            | (go_at_call 50; (with_reducible refine (bound_calls w0 _ g vs _ W0 hE2'.out).mono ?_); rintro e w3 ⟨rfl, hE3⟩; have hE3' := Aside0.mk hE3; clear hE3)
            | fail)
          go_ret
          obtain ⟨e1, e2⟩ := Prod.mk.inj hR.out
          rw [← e1, ← e2]
          exact ⟨rfl, (hE1'.out.step (by rw [hb3.out]; exact pw_below_drewN (Below.refl _ _) _))⟩
      have h9 := Aside0.mk hop
      clear hop
      have f1 : (op.toList == [43]) = false := by rw [(opF op).p1]; exact decide_eq_false h1.out
      have f2 : (op.toList == [45]) = false := by rw [(opF op).p2]; exact decide_eq_false h2.out
      have f3 : (op.toList == [42]) = false := by rw [(opF op).p3]; exact decide_eq_false h3.out
      have f4 : (op.toList == [60]) = false := by rw [(opF op).p4]; exact decide_eq_false h4.out
      have f5 : (op.toList == [60, 61]) = false := by rw [(opF op).p5]; exact decide_eq_false h5.out
      have f6 : (op.toList == [61, 61]) = false := by rw [(opF op).p6]; exact decide_eq_false h6.out
      have f7 : (op.toList == [33, 61]) = false := by rw [(opF op).p7]; exact decide_eq_false h7.out
      have f8 : (op.toList == [38, 38]) = false := by rw [(opF op).p8]; exact decide_eq_false h8.out
      have f9 : (op.toList == [124, 124]) = false := by rw [(opF op).p9]; exact decide_eq_false h9.out
      by_cases hy0 : ye = 0
      · subst hy0
        have hR : Aside0 ((tru (yn != 0), 0) = (rn, re)) := ⟨by rw [← hres'.out, if_neg (by simp [h8.out, h9.out]), if_neg (by simp)]; unfold arith; rw [if_neg h1.out, if_neg h2.out, if_neg h3.out, if_neg h4.out, if_neg h5.out, if_neg h6.out, if_neg h7.out]⟩
        go_enter Tryd.func34, Tryd.ntmps34
        go_upto_region 1 with fail
        refine wp_world (fun W hW => ?_)
        obtain ⟨b, hb⟩ : ∃ b, w.heap.size = b := ⟨_, rfl⟩
        obtain ⟨A, c, _, _, _, _, _, hgl⟩ := h'.out.cells
        have hbg : Aside0 (b ≠ g) := ⟨by omega⟩
        have hX : W.heap[w.heap.size]? = some (.cells #[.string op, .nilIface, (.iface t2 u2)] 50 (0, 0)) := by rw [hW]; exact blk_new _ _
        have hEW : Aside0 (Ev w0 g vs 0 W0 W) := ⟨h'.out.step (by rw [hW]; exact below_alloc (Below.refl _ _) _)⟩
        rw [hb] at hX
        rw [hb]
        have o0 : W.cell? ⟨b, 0, none⟩ = some (.string op) := (blk_cell hX 0).trans rfl
        have o1 : W.cell? ⟨b, 1, none⟩ = some .nilIface := (blk_cell hX 1).trans rfl
        have o2 : W.cell? ⟨b, 2, none⟩ = some (.iface t2 u2) := (blk_cell hX 2).trans rfl
        have hX' := Aside0.mk hX
        clear hW hX hgl
        go_upto_region 2 with (first
          | (go_at_call 20; (with_reducible refine (hl'.out _ hEW.out).mono ?_); rintro e w1 ⟨rfl, hE1⟩; have hE1' := Aside0.mk (hEW.out.trans hE1); obtain ⟨A1, c1, _, _, a1, _, _, hgl1⟩ := hE1.cells; have hX1 := Aside0.mk (hE1.blk hX'.out hbg.out); have o0' : w1.cell? ⟨b, 0, none⟩ = some (.string op) := (blk_cell hX1.out 0).trans rfl; have o2' : w1.cell? ⟨b, 2, none⟩ = some (.iface t2 u2) := (blk_cell hX1.out 2).trans rfl; clear hE1)
          | fail)
        clear o0 o1 o2
        go_wp2_with (first
          | (go_at_call 20; (with_reducible refine (hr'.out _ hE1'.out).mono ?_); rintro e w2 ⟨rfl, hE2⟩; have hE2' := Aside0.mk (hE1'.out.trans hE2); obtain ⟨A2, c2, _, _, a2, _, _, hgl2⟩ := hE2.cells; have hX2 := Aside0.mk (hE2.blk hX1.out hbg.out); have o0'' : w2.cell? ⟨b, 0, none⟩ = some (.string op) := (blk_cell hX2.out 0).trans rfl; clear hE2 o0' o2' a1)
          | (go_at_call 33; (with_reducible refine (truth_calls _ _).mono ?_); rintro e w3 ⟨rfl, ⟨m3, hm3⟩⟩; have hb3 := Aside0.mk hm3; clear hm3)
          | (go_at_call 50; (with_reducible refine (bound_calls w0 _ g vs _ W0 hE2'.out).mono ?_); rintro e w3 ⟨rfl, hE3⟩; have hE3' := Aside0.mk hE3; clear hE3)
          | fail)
        go_ret
        obtain ⟨e1, e2⟩ := Prod.mk.inj hR.out
        rw [← e1, ← e2]
        exact ⟨rfl, (hE2'.out.step (by rw [hb3.out]; exact pw_below_drewN (Below.refl _ _) _))⟩
      · have dy : (ye != 0) = true := by simpa using hy0
        have hy0' := Aside0.mk hy0
        have hR : Aside0 ((0, ye) = (rn, re)) := ⟨by rw [← hres'.out, if_neg (by simp [h8.out, h9.out]), if_pos hy0'.out]⟩
        clear hy0
        go_enter Tryd.func34, Tryd.ntmps34
        go_upto_region 1 with fail
        refine wp_world (fun W hW => ?_)
        obtain ⟨b, hb⟩ : ∃ b, w.heap.size = b := ⟨_, rfl⟩
        obtain ⟨A, c, _, _, _, _, _, hgl⟩ := h'.out.cells
        have hbg : Aside0 (b ≠ g) := ⟨by omega⟩
        have hX : W.heap[w.heap.size]? = some (.cells #[.string op, .nilIface, (.iface t2 u2)] 50 (0, 0)) := by rw [hW]; exact blk_new _ _
        have hEW : Aside0 (Ev w0 g vs 0 W0 W) := ⟨h'.out.step (by rw [hW]; exact below_alloc (Below.refl _ _) _)⟩
        rw [hb] at hX
        rw [hb]
        have o0 : W.cell? ⟨b, 0, none⟩ = some (.string op) := (blk_cell hX 0).trans rfl
        have o1 : W.cell? ⟨b, 1, none⟩ = some .nilIface := (blk_cell hX 1).trans rfl
        have o2 : W.cell? ⟨b, 2, none⟩ = some (.iface t2 u2) := (blk_cell hX 2).trans rfl
        have hX' := Aside0.mk hX
        clear hW hX hgl
        go_upto_region 2 with (first
          | (go_at_call 20; (with_reducible refine (hl'.out _ hEW.out).mono ?_); rintro e w1 ⟨rfl, hE1⟩; have hE1' := Aside0.mk (hEW.out.trans hE1); obtain ⟨A1, c1, _, _, a1, _, _, hgl1⟩ := hE1.cells; have hX1 := Aside0.mk (hE1.blk hX'.out hbg.out); have o0' : w1.cell? ⟨b, 0, none⟩ = some (.string op) := (blk_cell hX1.out 0).trans rfl; have o2' : w1.cell? ⟨b, 2, none⟩ = some (.iface t2 u2) := (blk_cell hX1.out 2).trans rfl; clear hE1)
          | fail)
        clear o0 o1 o2
        go_wp2_with (first
          | (go_at_call 20; (with_reducible refine (hr'.out _ hE1'.out).mono ?_); rintro e w2 ⟨rfl, hE2⟩; have hE2' := Aside0.mk (hE1'.out.trans hE2); obtain ⟨A2, c2, _, _, a2, _, _, hgl2⟩ := hE2.cells; have hX2 := Aside0.mk (hE2.blk hX1.out hbg.out); have o0'' : w2.cell? ⟨b, 0, none⟩ = some (.string op) := (blk_cell hX2.out 0).trans rfl; clear hE2 o0' o2' a1)
          | (go_at_call 33; (with_reducible refine (truth_calls _ _).mono ?_); rintro e w3 ⟨rfl, ⟨m3, hm3⟩⟩; have hb3 := Aside0.mk hm3; clear hm3)
          | (go_at_call 50; (with_reducible refine (bound_calls w0 _ g vs _ W0 hE2'.out).mono ?_); rintro e w3 ⟨rfl, hE3⟩; have hE3' := Aside0.mk hE3; clear hE3)
          | fail)
        go_ret
        obtain ⟨e1, e2⟩ := Prod.mk.inj hR.out
        rw [← e1, ← e2]
        exact ⟨rfl, hE2'.out⟩
    · have dx : (xe != 0) = true := by simpa using hx0
      have hR : Aside0 ((tru (xn != 0), xe) = (rn, re)) := ⟨by rw [← hres'.out, if_pos (Or.inl hx0)]⟩
      clear hx0
      go_enter Tryd.func34, Tryd.ntmps34
      go_upto_region 1 with fail
      refine wp_world (fun W hW => ?_)
      obtain ⟨b, hb⟩ : ∃ b, w.heap.size = b := ⟨_, rfl⟩
      obtain ⟨A, c, _, _, _, _, _, hgl⟩ := h'.out.cells
      have hbg : Aside0 (b ≠ g) := ⟨by omega⟩
      have hX : W.heap[w.heap.size]? = some (.cells #[.string op, .nilIface, (.iface t2 u2)] 50 (0, 0)) := by rw [hW]; exact blk_new _ _
      have hEW : Aside0 (Ev w0 g vs 0 W0 W) := ⟨h'.out.step (by rw [hW]; exact below_alloc (Below.refl _ _) _)⟩
      rw [hb] at hX
      rw [hb]
      have o0 : W.cell? ⟨b, 0, none⟩ = some (.string op) := (blk_cell hX 0).trans rfl
      have o1 : W.cell? ⟨b, 1, none⟩ = some .nilIface := (blk_cell hX 1).trans rfl
      have o2 : W.cell? ⟨b, 2, none⟩ = some (.iface t2 u2) := (blk_cell hX 2).trans rfl
      have hX' := Aside0.mk hX
      clear hW hX hgl
      go_upto_region 2 with (first
        | (go_at_call 20; (with_reducible refine (hl'.out _ hEW.out).mono ?_); rintro e w1 ⟨rfl, hE1⟩; have hE1' := Aside0.mk (hEW.out.trans hE1); obtain ⟨A1, c1, _, _, a1, _, _, hgl1⟩ := hE1.cells; have hX1 := Aside0.mk (hE1.blk hX'.out hbg.out); have o0' : w1.cell? ⟨b, 0, none⟩ = some (.string op) := (blk_cell hX1.out 0).trans rfl; have o2' : w1.cell? ⟨b, 2, none⟩ = some (.iface t2 u2) := (blk_cell hX1.out 2).trans rfl; clear hE1)
        | fail)
      clear o0 o1 o2
      go_wp2_with (first
        | (go_at_call 20; (with_reducible refine (hr'.out _ hE1'.out).mono ?_); rintro e w2 ⟨rfl, hE2⟩; have hE2' := Aside0.mk (hE1'.out.trans hE2); obtain ⟨A2, c2, _, _, a2, _, _, hgl2⟩ := hE2.cells; have hX2 := Aside0.mk (hE2.blk hX1.out hbg.out); have o0'' : w2.cell? ⟨b, 0, none⟩ = some (.string op) := (blk_cell hX2.out 0).trans rfl; clear hE2 o0' o2' a1)
        | (go_at_call 33; (with_reducible refine (truth_calls _ _).mono ?_); rintro e w3 ⟨rfl, ⟨m3, hm3⟩⟩; have hb3 := Aside0.mk hm3; clear hm3)
        | (go_at_call 50; (with_reducible refine (bound_calls w0 _ g vs _ W0 hE2'.out).mono ?_); rintro e w3 ⟨rfl, hE3⟩; have hE3' := Aside0.mk hE3; clear hE3)
        | fail)
      go_ret
      obtain ⟨e1, e2⟩ := Prod.mk.inj hR.out
      rw [← e1, ← e2]
      exact ⟨rfl, (hE1'.out.step (by rw [hb3.out]; exact pw_below_drewN (Below.refl _ _) _))⟩
  · by_cases hx0 : xe = 0
    · subst hx0
      by_cases hop : op = sPlus
      · have f1 : (op.toList == [43]) = true := by rw [(opF op).p1]; rw [hop]; decide
        have f2 : (op.toList == [45]) = false := by rw [(opF op).p2]; rw [hop]; decide
        have f3 : (op.toList == [42]) = false := by rw [(opF op).p3]; rw [hop]; decide
        have f4 : (op.toList == [60]) = false := by rw [(opF op).p4]; rw [hop]; decide
        have f5 : (op.toList == [60, 61]) = false := by rw [(opF op).p5]; rw [hop]; decide
        have f6 : (op.toList == [61, 61]) = false := by rw [(opF op).p6]; rw [hop]; decide
        have f7 : (op.toList == [33, 61]) = false := by rw [(opF op).p7]; rw [hop]; decide
        have f8 : (op.toList == [38, 38]) = false := by rw [(opF op).p8]; rw [hop]; decide
        have f9 : (op.toList == [124, 124]) = false := by rw [(opF op).p9]; rw [hop]; decide
        have hop' := Aside0.mk hop
        clear hop
        by_cases hy0 : ye = 0
        · subst hy0
          have hR : Aside0 (withB (wrap64 (xn + yn)) = (rn, re)) := ⟨by rw [← hres'.out, if_neg (by rw [hop'.out]; simp [show sPlus ≠ sAnd from by decide, show sPlus ≠ sOr from by decide]), if_neg (by simp)]; unfold arith; rw [hop'.out]; rfl⟩
          go_enter Tryd.func34, Tryd.ntmps34
          go_upto_region 1 with fail
          refine wp_world (fun W hW => ?_)
          obtain ⟨b, hb⟩ : ∃ b, w.heap.size = b := ⟨_, rfl⟩
          obtain ⟨A, c, _, _, _, _, _, hgl⟩ := h'.out.cells
          have hbg : Aside0 (b ≠ g) := ⟨by omega⟩
          have hX : W.heap[w.heap.size]? = some (.cells #[.string op, (.iface t1 u1), .nilIface] 50 (0, 0)) := by rw [hW]; exact blk_new _ _
          have hEW : Aside0 (Ev w0 g vs 0 W0 W) := ⟨h'.out.step (by rw [hW]; exact below_alloc (Below.refl _ _) _)⟩
          rw [hb] at hX
          rw [hb]
          have o0 : W.cell? ⟨b, 0, none⟩ = some (.string op) := (blk_cell hX 0).trans rfl
          have o1 : W.cell? ⟨b, 1, none⟩ = some (.iface t1 u1) := (blk_cell hX 1).trans rfl
          have o2 : W.cell? ⟨b, 2, none⟩ = some .nilIface := (blk_cell hX 2).trans rfl
          have hX' := Aside0.mk hX
          clear hW hX hgl
          go_upto_region 2 with (first
            | (go_at_call 20; (with_reducible refine (hl'.out _ hEW.out).mono ?_); rintro e w1 ⟨rfl, hE1⟩; have hE1' := Aside0.mk (hEW.out.trans hE1); obtain ⟨A1, c1, _, _, a1, _, _, hgl1⟩ := hE1.cells; have hX1 := Aside0.mk (hE1.blk hX'.out hbg.out); have o0' : w1.cell? ⟨b, 0, none⟩ = some (.string op) := (blk_cell hX1.out 0).trans rfl; have o2' : w1.cell? ⟨b, 2, none⟩ = some .nilIface := (blk_cell hX1.out 2).trans rfl; clear hE1)
            | fail)
          clear o0 o1 o2
          go_wp2_with (first
            | (go_at_call 20; (with_reducible refine (hr'.out _ hE1'.out).mono ?_); rintro e w2 ⟨rfl, hE2⟩; have hE2' := Aside0.mk (hE1'.out.trans hE2); obtain ⟨A2, c2, _, _, a2, _, _, hgl2⟩ := hE2.cells; have hX2 := Aside0.mk (hE2.blk hX1.out hbg.out); have o0'' : w2.cell? ⟨b, 0, none⟩ = some (.string op) := (blk_cell hX2.out 0).trans rfl; clear hE2 o0' o2' a1)
            | (go_at_call 33; (with_reducible refine (truth_calls _ _).mono ?_); rintro e w3 ⟨rfl, ⟨m3, hm3⟩⟩; have hb3 := Aside0.mk hm3; clear hm3)
            | (go_at_call 50; (with_reducible refine (bound_calls w0 _ g vs _ W0 hE2'.out).mono ?_); rintro e w3 ⟨rfl, hE3⟩; have hE3' := Aside0.mk hE3; clear hE3)
            | fail)
          go_ret
          obtain ⟨e1, e2⟩ := Prod.mk.inj hR.out
          rw [← e1, ← e2]
          exact ⟨rfl, hE3'.out⟩
        · have dy : (ye != 0) = true := by simpa using hy0
          have hy0' := Aside0.mk hy0
          have hR : Aside0 ((0, ye) = (rn, re)) := ⟨by rw [← hres'.out, if_neg (by rw [hop'.out]; simp [show sPlus ≠ sAnd from by decide, show sPlus ≠ sOr from by decide]), if_pos hy0'.out]⟩
          clear hy0
          go_enter Tryd.func34, Tryd.ntmps34
          go_upto_region 1 with fail
          refine wp_world (fun W hW => ?_)
          obtain ⟨b, hb⟩ : ∃ b, w.heap.size = b := ⟨_, rfl⟩
          obtain ⟨A, c, _, _, _, _, _, hgl⟩ := h'.out.cells
          have hbg : Aside0 (b ≠ g) := ⟨by omega⟩
          have hX : W.heap[w.heap.size]? = some (.cells #[.string op, (.iface t1 u1), .nilIface] 50 (0, 0)) := by rw [hW]; exact blk_new _ _
          have hEW : Aside0 (Ev w0 g vs 0 W0 W) := ⟨h'.out.step (by rw [hW]; exact below_alloc (Below.refl _ _) _)⟩
          rw [hb] at hX
          rw [hb]
          have o0 : W.cell? ⟨b, 0, none⟩ = some (.string op) := (blk_cell hX 0).trans rfl
          have o1 : W.cell? ⟨b, 1, none⟩ = some (.iface t1 u1) := (blk_cell hX 1).trans rfl
          have o2 : W.cell? ⟨b, 2, none⟩ = some .nilIface := (blk_cell hX 2).trans rfl
          have hX' := Aside0.mk hX
          clear hW hX hgl
          go_upto_region 2 with (first
            | (go_at_call 20; (with_reducible refine (hl'.out _ hEW.out).mono ?_); rintro e w1 ⟨rfl, hE1⟩; have hE1' := Aside0.mk (hEW.out.trans hE1); obtain ⟨A1, c1, _, _, a1, _, _, hgl1⟩ := hE1.cells; have hX1 := Aside0.mk (hE1.blk hX'.out hbg.out); have o0' : w1.cell? ⟨b, 0, none⟩ = some (.string op) := (blk_cell hX1.out 0).trans rfl; have o2' : w1.cell? ⟨b, 2, none⟩ = some .nilIface := (blk_cell hX1.out 2).trans rfl; clear hE1)
            | fail)
          clear o0 o1 o2
          go_wp2_with (first
            | (go_at_call 20; (with_reducible refine (hr'.out _ hE1'.out).mono ?_); rintro e w2 ⟨rfl, hE2⟩; have hE2' := Aside0.mk (hE1'.out.trans hE2); obtain ⟨A2, c2, _, _, a2, _, _, hgl2⟩ := hE2.cells; have hX2 := Aside0.mk (hE2.blk hX1.out hbg.out); have o0'' : w2.cell? ⟨b, 0, none⟩ = some (.string op) := (blk_cell hX2.out 0).trans rfl; clear hE2 o0' o2' a1)
            | (go_at_call 33; (with_reducible refine (truth_calls _ _).mono ?_); rintro e w3 ⟨rfl, ⟨m3, hm3⟩⟩; have hb3 := Aside0.mk hm3; clear hm3)
            | (go_at_call 50; (with_reducible refine (bound_calls w0 _ g vs _ W0 hE2'.out).mono ?_); rintro e w3 ⟨rfl, hE3⟩; have hE3' := Aside0.mk hE3; clear hE3)
            | fail)
          go_ret
          obtain ⟨e1, e2⟩ := Prod.mk.inj hR.out
          rw [← e1, ← e2]
          exact ⟨rfl, hE2'.out⟩
      have h1 := Aside0.mk hop
      clear hop
      by_cases hop : op = sMinus
      · have f1 : (op.toList == [43]) = false := by rw [(opF op).p1]; rw [hop]; decide
        have f2 : (op.toList == [45]) = true := by rw [(opF op).p2]; rw [hop]; decide
        have f3 : (op.toList == [42]) = false := by rw [(opF op).p3]; rw [hop]; decide
        have f4 : (op.toList == [60]) = false := by rw [(opF op).p4]; rw [hop]; decide
        have f5 : (op.toList == [60, 61]) = false := by rw [(opF op).p5]; rw [hop]; decide
        have f6 : (op.toList == [61, 61]) = false := by rw [(opF op).p6]; rw [hop]; decide
        have f7 : (op.toList == [33, 61]) = false := by rw [(opF op).p7]; rw [hop]; decide
        have f8 : (op.toList == [38, 38]) = false := by rw [(opF op).p8]; rw [hop]; decide
        have f9 : (op.toList == [124, 124]) = false := by rw [(opF op).p9]; rw [hop]; decide
        have hop' := Aside0.mk hop
        clear hop
        by_cases hy0 : ye = 0
        · subst hy0
          have hR : Aside0 (withB (wrap64 (xn - yn)) = (rn, re)) := ⟨by rw [← hres'.out, if_neg (by rw [hop'.out]; simp [show sMinus ≠ sAnd from by decide, show sMinus ≠ sOr from by decide]), if_neg (by simp)]; unfold arith; rw [hop'.out]; rfl⟩
          go_enter Tryd.func34, Tryd.ntmps34
          go_upto_region 1 with fail
          refine wp_world (fun W hW => ?_)
          obtain ⟨b, hb⟩ : ∃ b, w.heap.size = b := ⟨_, rfl⟩
          obtain ⟨A, c, _, _, _, _, _, hgl⟩ := h'.out.cells
          have hbg : Aside0 (b ≠ g) := ⟨by omega⟩
          have hX : W.heap[w.heap.size]? = some (.cells #[.string op, (.iface t1 u1), .nilIface] 50 (0, 0)) := by rw [hW]; exact blk_new _ _
          have hEW : Aside0 (Ev w0 g vs 0 W0 W) := ⟨h'.out.step (by rw [hW]; exact below_alloc (Below.refl _ _) _)⟩
          rw [hb] at hX
          rw [hb]
          have o0 : W.cell? ⟨b, 0, none⟩ = some (.string op) := (blk_cell hX 0).trans rfl
          have o1 : W.cell? ⟨b, 1, none⟩ = some (.iface t1 u1) := (blk_cell hX 1).trans rfl
          have o2 : W.cell? ⟨b, 2, none⟩ = some .nilIface := (blk_cell hX 2).trans rfl
          have hX' := Aside0.mk hX
          clear hW hX hgl
          go_upto_region 2 with (first
            | (go_at_call 20; (with_reducible refine (hl'.out _ hEW.out).mono ?_); rintro e w1 ⟨rfl, hE1⟩; have hE1' := Aside0.mk (hEW.out.trans hE1); obtain ⟨A1, c1, _, _, a1, _, _, hgl1⟩ := hE1.cells; have hX1 := Aside0.mk (hE1.blk hX'.out hbg.out); have o0' : w1.cell? ⟨b, 0, none⟩ = some (.string op) := (blk_cell hX1.out 0).trans rfl; have o2' : w1.cell? ⟨b, 2, none⟩ = some .nilIface := (blk_cell hX1.out 2).trans rfl; clear hE1)
            | fail)
          clear o0 o1 o2
          go_wp2_with (first
            | (go_at_call 20; (with_reducible refine (hr'.out _ hE1'.out).mono ?_); rintro e w2 ⟨rfl, hE2⟩; have hE2' := Aside0.mk (hE1'.out.trans hE2); obtain ⟨A2, c2, _, _, a2, _, _, hgl2⟩ := hE2.cells; have hX2 := Aside0.mk (hE2.blk hX1.out hbg.out); have o0'' : w2.cell? ⟨b, 0, none⟩ = some (.string op) := (blk_cell hX2.out 0).trans rfl; clear hE2 o0' o2' a1)
            | (go_at_call 33; (with_reducible refine (truth_calls _ _).mono ?_); rintro e w3 ⟨rfl, ⟨m3, hm3⟩⟩; have hb3 := Aside0.mk hm3; clear hm3)
            | (go_at_call 50; (with_reducible refine (bound_calls w0 _ g vs _ W0 hE2'.out).mono ?_); rintro e w3 ⟨rfl, hE3⟩; have hE3' := Aside0.mk hE3; clear hE3)
            | fail)
          go_ret
          obtain ⟨e1, e2⟩ := Prod.mk.inj hR.out
          rw [← e1, ← e2]
          exact ⟨rfl, hE3'.out⟩
        · have dy : (ye != 0) = true := by simpa using hy0
          have hy0' := Aside0.mk hy0
          have hR : Aside0 ((0, ye) = (rn, re)) := ⟨by rw [← hres'.out, if_neg (by rw [hop'.out]; simp [show sMinus ≠ sAnd from by decide, show sMinus ≠ sOr from by decide]), if_pos hy0'.out]⟩
          clear hy0
          go_enter Tryd.func34, Tryd.ntmps34
          go_upto_region 1 with fail
          refine wp_world (fun W hW => ?_)
          obtain ⟨b, hb⟩ : ∃ b, w.heap.size = b := ⟨_, rfl⟩
          obtain ⟨A, c, _, _, _, _, _, hgl⟩ := h'.out.cells
          have hbg : Aside0 (b ≠ g) := ⟨by omega⟩
          have hX : W.heap[w.heap.size]? = some (.cells #[.string op, (.iface t1 u1), .nilIface] 50 (0, 0)) := by rw [hW]; exact blk_new _ _
          have hEW : Aside0 (Ev w0 g vs 0 W0 W) := ⟨h'.out.step (by rw [hW]; exact below_alloc (Below.refl _ _) _)⟩
          rw [hb] at hX
          rw [hb]
          have o0 : W.cell? ⟨b, 0, none⟩ = some (.string op) := (blk_cell hX 0).trans rfl
          have o1 : W.cell? ⟨b, 1, none⟩ = some (.iface t1 u1) := (blk_cell hX 1).trans rfl
          have o2 : W.cell? ⟨b, 2, none⟩ = some .nilIface := (blk_cell hX 2).trans rfl
          have hX' := Aside0.mk hX
          clear hW hX hgl
          go_upto_region 2 with (first
            | (go_at_call 20; (with_reducible refine (hl'.out _ hEW.out).mono ?_); rintro e w1 ⟨rfl, hE1⟩; have hE1' := Aside0.mk (hEW.out.trans hE1); obtain ⟨A1, c1, _, _, a1, _, _, hgl1⟩ := hE1.cells; have hX1 := Aside0.mk (hE1.blk hX'.out hbg.out); have o0' : w1.cell? ⟨b, 0, none⟩ = some (.string op) := (blk_cell hX1.out 0).trans rfl; have o2' : w1.cell? ⟨b, 2, none⟩ = some .nilIface := (blk_cell hX1.out 2).trans rfl; clear hE1)
            | fail)
          clear o0 o1 o2
          go_wp2_with (first
            | (go_at_call 20; (with_reducible refine (hr'.out _ hE1'.out).mono ?_); rintro e w2 ⟨rfl, hE2⟩; have hE2' := Aside0.mk (hE1'.out.trans hE2); obtain ⟨A2, c2, _, _, a2, _, _, hgl2⟩ := hE2.cells; have hX2 := Aside0.mk (hE2.blk hX1.out hbg.out); have o0'' : w2.cell? ⟨b, 0, none⟩ = some (.string op) := (blk_cell hX2.out 0).trans rfl; clear hE2 o0' o2' a1)
            | (go_at_call 33; (with_reducible refine (truth_calls _ _).mono ?_); rintro e w3 ⟨rfl, ⟨m3, hm3⟩⟩; have hb3 := Aside0.mk hm3; clear hm3)
            | (go_at_call 50; (with_reducible refine (bound_calls w0 _ g vs _ W0 hE2'.out).mono ?_); rintro e w3 ⟨rfl, hE3⟩; have hE3' := Aside0.mk hE3; clear hE3)
            | fail)
          go_ret
          obtain ⟨e1, e2⟩ := Prod.mk.inj hR.out
          rw [← e1, ← e2]
          exact ⟨rfl, hE2'.out⟩
      have h2 := Aside0.mk hop
      clear hop
      by_cases hop : op = sMul
      · have f1 : (op.toList == [43]) = false := by rw [(opF op).p1]; rw [hop]; decide
        have f2 : (op.toList == [45]) = false := by rw [(opF op).p2]; rw [hop]; decide
        have f3 : (op.toList == [42]) = true := by rw [(opF op).p3]; rw [hop]; decide
        have f4 : (op.toList == [60]) = false := by rw [(opF op).p4]; rw [hop]; decide
        have f5 : (op.toList == [60, 61]) = false := by rw [(opF op).p5]; rw [hop]; decide
        have f6 : (op.toList == [61, 61]) = false := by rw [(opF op).p6]; rw [hop]; decide
        have f7 : (op.toList == [33, 61]) = false := by rw [(opF op).p7]; rw [hop]; decide
        have f8 : (op.toList == [38, 38]) = false := by rw [(opF op).p8]; rw [hop]; decide
        have f9 : (op.toList == [124, 124]) = false := by rw [(opF op).p9]; rw [hop]; decide
        have hop' := Aside0.mk hop
        clear hop
        by_cases hy0 : ye = 0
        · subst hy0
          have hR : Aside0 (withB (wrap64 (xn * yn)) = (rn, re)) := ⟨by rw [← hres'.out, if_neg (by rw [hop'.out]; simp [show sMul ≠ sAnd from by decide, show sMul ≠ sOr from by decide]), if_neg (by simp)]; unfold arith; rw [hop'.out]; rfl⟩
          go_enter Tryd.func34, Tryd.ntmps34
          go_upto_region 1 with fail
          refine wp_world (fun W hW => ?_)
          obtain ⟨b, hb⟩ : ∃ b, w.heap.size = b := ⟨_, rfl⟩
          obtain ⟨A, c, _, _, _, _, _, hgl⟩ := h'.out.cells
          have hbg : Aside0 (b ≠ g) := ⟨by omega⟩
          have hX : W.heap[w.heap.size]? = some (.cells #[.string op, (.iface t1 u1), .nilIface] 50 (0, 0)) := by rw [hW]; exact blk_new _ _
          have hEW : Aside0 (Ev w0 g vs 0 W0 W) := ⟨h'.out.step (by rw [hW]; exact below_alloc (Below.refl _ _) _)⟩
          rw [hb] at hX
          rw [hb]
          have o0 : W.cell? ⟨b, 0, none⟩ = some (.string op) := (blk_cell hX 0).trans rfl
          have o1 : W.cell? ⟨b, 1, none⟩ = some (.iface t1 u1) := (blk_cell hX 1).trans rfl
          have o2 : W.cell? ⟨b, 2, none⟩ = some .nilIface := (blk_cell hX 2).trans rfl
          have hX' := Aside0.mk hX
          clear hW hX hgl
          go_upto_region 2 with (first
            | (go_at_call 20; (with_reducible refine (hl'.out _ hEW.out).mono ?_); rintro e w1 ⟨rfl, hE1⟩; have hE1' := Aside0.mk (hEW.out.trans hE1); obtain ⟨A1, c1, _, _, a1, _, _, hgl1⟩ := hE1.cells; have hX1 := Aside0.mk (hE1.blk hX'.out hbg.out); have o0' : w1.cell? ⟨b, 0, none⟩ = some (.string op) := (blk_cell hX1.out 0).trans rfl; have o2' : w1.cell? ⟨b, 2, none⟩ = some .nilIface := (blk_cell hX1.out 2).trans rfl; clear hE1)
            | fail)
          clear o0 o1 o2
          go_wp2_with (first
            | (go_at_call 20; (with_reducible refine (hr'.out _ hE1'.out).mono ?_); rintro e w2 ⟨rfl, hE2⟩; have hE2' := Aside0.mk (hE1'.out.trans hE2); obtain ⟨A2, c2, _, _, a2, _, _, hgl2⟩ := hE2.cells; have hX2 := Aside0.mk (hE2.blk hX1.out hbg.out); have o0'' : w2.cell? ⟨b, 0, none⟩ = some (.string op) := (blk_cell hX2.out 0).trans rfl; clear hE2 o0' o2' a1)
            | (go_at_call 33; (with_reducible refine (truth_calls _ _).mono ?_); rintro e w3 ⟨rfl, ⟨m3, hm3⟩⟩; have hb3 := Aside0.mk hm3; clear hm3)
            | (go_at_call 50; (with_reducible refine (bound_calls w0 _ g vs _ W0 hE2'.out).mono ?_); rintro e w3 ⟨rfl, hE3⟩; have hE3' := Aside0.mk hE3; clear hE3)
            | fail)
          go_ret
          obtain ⟨e1, e2⟩ := Prod.mk.inj hR.out
          rw [← e1, ← e2]
          exact ⟨rfl, hE3'.out⟩
        · have dy : (ye != 0) = true := by simpa using hy0
          have hy0' := Aside0.mk hy0
          have hR : Aside0 ((0, ye) = (rn, re)) := ⟨by rw [← hres'.out, if_neg (by rw [hop'.out]; simp [show sMul ≠ sAnd from by decide, show sMul ≠ sOr from by decide]), if_pos hy0'.out]⟩
          clear hy0
          go_enter Tryd.func34, Tryd.ntmps34
          go_upto_region 1 with fail
          refine wp_world (fun W hW => ?_)
          obtain ⟨b, hb⟩ : ∃ b, w.heap.size = b := ⟨_, rfl⟩
          obtain ⟨A, c, _, _, _, _, _, hgl⟩ := h'.out.cells
          have hbg : Aside0 (b ≠ g) := ⟨by omega⟩
          have hX : W.heap[w.heap.size]? = some (.cells #[.string op, (.iface t1 u1), .nilIface] 50 (0, 0)) := by rw [hW]; exact blk_new _ _
          have hEW : Aside0 (Ev w0 g vs 0 W0 W) := ⟨h'.out.step (by rw [hW]; exact below_alloc (Below.refl _ _) _)⟩
          rw [hb] at hX
          rw [hb]
          have o0 : W.cell? ⟨b, 0, none⟩ = some (.string op) := (blk_cell hX 0).trans rfl
          have o1 : W.cell? ⟨b, 1, none⟩ = some (.iface t1 u1) := (blk_cell hX 1).trans rfl
          have o2 : W.cell? ⟨b, 2, none⟩ = some .nilIface := (blk_cell hX 2).trans rfl
          have hX' := Aside0.mk hX
          clear hW hX hgl
          go_upto_region 2 with (first
            | (go_at_call 20; (with_reducible refine (hl'.out _ hEW.out).mono ?_); rintro e w1 ⟨rfl, hE1⟩; have hE1' := Aside0.mk (hEW.out.trans hE1); obtain ⟨A1, c1, _, _, a1, _, _, hgl1⟩ := hE1.cells; have hX1 := Aside0.mk (hE1.blk hX'.out hbg.out); have o0' : w1.cell? ⟨b, 0, none⟩ = some (.string op) := (blk_cell hX1.out 0).trans rfl; have o2' : w1.cell? ⟨b, 2, none⟩ = some .nilIface := (blk_cell hX1.out 2).trans rfl; clear hE1)
            | fail)
          clear o0 o1 o2
          go_wp2_with (first
            | (go_at_call 20; (with_reducible refine (hr'.out _ hE1'.out).mono ?_); rintro e w2 ⟨rfl, hE2⟩; have hE2' := Aside0.mk (hE1'.out.trans hE2); obtain ⟨A2, c2, _, _, a2, _, _, hgl2⟩ := hE2.cells; have hX2 := Aside0.mk (hE2.blk hX1.out hbg.out); have o0'' : w2.cell? ⟨b, 0, none⟩ = some (.string op) := (blk_cell hX2.out 0).trans rfl; clear hE2 o0' o2' a1)
            | (go_at_call 33; (with_reducible refine (truth_calls _ _).mono ?_); rintro e w3 ⟨rfl, ⟨m3, hm3⟩⟩; have hb3 := Aside0.mk hm3; clear hm3)
            | (go_at_call 50; (with_reducible refine (bound_calls w0 _ g vs _ W0 hE2'.out).mono ?_); rintro e w3 ⟨rfl, hE3⟩; have hE3' := Aside0.mk hE3; clear hE3)
            | fail)
          go_ret
          obtain ⟨e1, e2⟩ := Prod.mk.inj hR.out
          rw [← e1, ← e2]
          exact ⟨rfl, hE2'.out⟩
      have h3 := Aside0.mk hop
      clear hop
      by_cases hop : op = sLess
      · have f1 : (op.toList == [43]) = false := by rw [(opF op).p1]; rw [hop]; decide
        have f2 : (op.toList == [45]) = false := by rw [(opF op).p2]; rw [hop]; decide
        have f3 : (op.toList == [42]) = false := by rw [(opF op).p3]; rw [hop]; decide
        have f4 : (op.toList == [60]) = true := by rw [(opF op).p4]; rw [hop]; decide
        have f5 : (op.toList == [60, 61]) = false := by rw [(opF op).p5]; rw [hop]; decide
        have f6 : (op.toList == [61, 61]) = false := by rw [(opF op).p6]; rw [hop]; decide
        have f7 : (op.toList == [33, 61]) = false := by rw [(opF op).p7]; rw [hop]; decide
        have f8 : (op.toList == [38, 38]) = false := by rw [(opF op).p8]; rw [hop]; decide
        have f9 : (op.toList == [124, 124]) = false := by rw [(opF op).p9]; rw [hop]; decide
        have hop' := Aside0.mk hop
        clear hop
        by_cases hy0 : ye = 0
        · subst hy0
          have hR : Aside0 ((tru (decide (xn < yn)), 0) = (rn, re)) := ⟨by rw [← hres'.out, if_neg (by rw [hop'.out]; simp [show sLess ≠ sAnd from by decide, show sLess ≠ sOr from by decide]), if_neg (by simp)]; unfold arith; rw [hop'.out]; rfl⟩
          go_enter Tryd.func34, Tryd.ntmps34
          go_upto_region 1 with fail
          refine wp_world (fun W hW => ?_)
          obtain ⟨b, hb⟩ : ∃ b, w.heap.size = b := ⟨_, rfl⟩
          obtain ⟨A, c, _, _, _, _, _, hgl⟩ := h'.out.cells
          have hbg : Aside0 (b ≠ g) := ⟨by omega⟩
          have hX : W.heap[w.heap.size]? = some (.cells #[.string op, (.iface t1 u1), .nilIface] 50 (0, 0)) := by rw [hW]; exact blk_new _ _
          have hEW : Aside0 (Ev w0 g vs 0 W0 W) := ⟨h'.out.step (by rw [hW]; exact below_alloc (Below.refl _ _) _)⟩
          rw [hb] at hX
          rw [hb]
          have o0 : W.cell? ⟨b, 0, none⟩ = some (.string op) := (blk_cell hX 0).trans rfl
          have o1 : W.cell? ⟨b, 1, none⟩ = some (.iface t1 u1) := (blk_cell hX 1).trans rfl
          have o2 : W.cell? ⟨b, 2, none⟩ = some .nilIface := (blk_cell hX 2).trans rfl
          have hX' := Aside0.mk hX
          clear hW hX hgl
          go_upto_region 2 with (first
            | (go_at_call 20; (with_reducible refine (hl'.out _ hEW.out).mono ?_); rintro e w1 ⟨rfl, hE1⟩; have hE1' := Aside0.mk (hEW.out.trans hE1); obtain ⟨A1, c1, _, _, a1, _, _, hgl1⟩ := hE1.cells; have hX1 := Aside0.mk (hE1.blk hX'.out hbg.out); have o0' : w1.cell? ⟨b, 0, none⟩ = some (.string op) := (blk_cell hX1.out 0).trans rfl; have o2' : w1.cell? ⟨b, 2, none⟩ = some .nilIface := (blk_cell hX1.out 2).trans rfl; clear hE1)
            | fail)
          clear o0 o1 o2
          go_wp2_with (first
            | (go_at_call 20; (with_reducible refine (hr'.out _ hE1'.out).mono ?_); rintro e w2 ⟨rfl, hE2⟩; have hE2' := Aside0.mk (hE1'.out.trans hE2); obtain ⟨A2, c2, _, _, a2, _, _, hgl2⟩ := hE2.cells; have hX2 := Aside0.mk (hE2.blk hX1.out hbg.out); have o0'' : w2.cell? ⟨b, 0, none⟩ = some (.string op) := (blk_cell hX2.out 0).trans rfl; clear hE2 o0' o2' a1)
            | (go_at_call 33; (with_reducible refine (truth_calls _ _).mono ?_); rintro e w3 ⟨rfl, ⟨m3, hm3⟩⟩; have hb3 := Aside0.mk hm3; clear hm3)
            | (go_at_call 50; (with_reducible refine (bound_calls w0 _ g vs _ W0 hE2'.out).mono ?_); rintro e w3 ⟨rfl, hE3⟩; have hE3' := Aside0.mk hE3; clear hE3)
            | fail)
          go_ret
          obtain ⟨e1, e2⟩ := Prod.mk.inj hR.out
          rw [← e1, ← e2]
          exact ⟨rfl, (hE2'.out.step (by rw [hb3.out]; exact pw_below_drewN (Below.refl _ _) _))⟩
        · have dy : (ye != 0) = true := by simpa using hy0
          have hy0' := Aside0.mk hy0
          have hR : Aside0 ((0, ye) = (rn, re)) := ⟨by rw [← hres'.out, if_neg (by rw [hop'.out]; simp [show sLess ≠ sAnd from by decide, show sLess ≠ sOr from by decide]), if_pos hy0'.out]⟩
          clear hy0
          go_enter Tryd.func34, Tryd.ntmps34
          go_upto_region 1 with fail
          refine wp_world (fun W hW => ?_)
          obtain ⟨b, hb⟩ : ∃ b, w.heap.size = b := ⟨_, rfl⟩
          obtain ⟨A, c, _, _, _, _, _, hgl⟩ := h'.out.cells
          have hbg : Aside0 (b ≠ g) := ⟨by omega⟩
          have hX : W.heap[w.heap.size]? = some (.cells #[.string op, (.iface t1 u1), .nilIface] 50 (0, 0)) := by rw [hW]; exact blk_new _ _
          have hEW : Aside0 (Ev w0 g vs 0 W0 W) := ⟨h'.out.step (by rw [hW]; exact below_alloc (Below.refl _ _) _)⟩
          rw [hb] at hX
          rw [hb]
          have o0 : W.cell? ⟨b, 0, none⟩ = some (.string op) := (blk_cell hX 0).trans rfl
          have o1 : W.cell? ⟨b, 1, none⟩ = some (.iface t1 u1) := (blk_cell hX 1).trans rfl
          have o2 : W.cell? ⟨b, 2, none⟩ = some .nilIface := (blk_cell hX 2).trans rfl
          have hX' := Aside0.mk hX
          clear hW hX hgl
          go_upto_region 2 with (first
            | (go_at_call 20; (with_reducible refine (hl'.out _ hEW.out).mono ?_); rintro e w1 ⟨rfl, hE1⟩; have hE1' := Aside0.mk (hEW.out.trans hE1); obtain ⟨A1, c1, _, _, a1, _, _, hgl1⟩ := hE1.cells; have hX1 := Aside0.mk (hE1.blk hX'.out hbg.out); have o0' : w1.cell? ⟨b, 0, none⟩ = some (.string op) := (blk_cell hX1.out 0).trans rfl; have o2' : w1.cell? ⟨b, 2, none⟩ = some .nilIface := (blk_cell hX1.out 2).trans rfl; clear hE1)
            | fail)
          clear o0 o1 o2
          go_wp2_with (first
            | (go_at_call 20; (with_reducible refine (hr'.out _ hE1'.out).mono ?_); rintro e w2 ⟨rfl, hE2⟩; have hE2' := Aside0.mk (hE1'.out.trans hE2); obtain ⟨A2, c2, _, _, a2, _, _, hgl2⟩ := hE2.cells; have hX2 := Aside0.mk (hE2.blk hX1.out hbg.out); have o0'' : w2.cell? ⟨b, 0, none⟩ = some (.string op) := (blk_cell hX2.out 0).trans rfl; clear hE2 o0' o2' a1)
            | (go_at_call 33; (with_reducible refine (truth_calls _ _).mono ?_); rintro e w3 ⟨rfl, ⟨m3, hm3⟩⟩; have hb3 := Aside0.mk hm3; clear hm3)
            | (go_at_call 50; (with_reducible refine (bound_calls w0 _ g vs _ W0 hE2'.out).mono ?_); rintro e w3 ⟨rfl, hE3⟩; have hE3' := Aside0.mk hE3; clear hE3)
            | fail)
          go_ret
          obtain ⟨e1, e2⟩ := Prod.mk.inj hR.out
          rw [← e1, ← e2]
          exact ⟨rfl, hE2'.out⟩
      have h4 := Aside0.mk hop
      clear hop
      by_cases hop : op = sLeq
      · have f1 : (op.toList == [43]) = false := by rw [(opF op).p1]; rw [hop]; decide
        have f2 : (op.toList == [45]) = false := by rw [(opF op).p2]; rw [hop]; decide
        have f3 : (op.toList == [42]) = false := by rw [(opF op).p3]; rw [hop]; decide
        have f4 : (op.toList == [60]) = false := by rw [(opF op).p4]; rw [hop]; decide
        have f5 : (op.toList == [60, 61]) = true := by rw [(opF op).p5]; rw [hop]; decide
        have f6 : (op.toList == [61, 61]) = false := by rw [(opF op).p6]; rw [hop]; decide
        have f7 : (op.toList == [33, 61]) = false := by rw [(opF op).p7]; rw [hop]; decide
        have f8 : (op.toList == [38, 38]) = false := by rw [(opF op).p8]; rw [hop]; decide
        have f9 : (op.toList == [124, 124]) = false := by rw [(opF op).p9]; rw [hop]; decide
        have hop' := Aside0.mk hop
        clear hop
        by_cases hy0 : ye = 0
        · subst hy0
          have hR : Aside0 ((tru (decide (xn ≤ yn)), 0) = (rn, re)) := ⟨by rw [← hres'.out, if_neg (by rw [hop'.out]; simp [show sLeq ≠ sAnd from by decide, show sLeq ≠ sOr from by decide]), if_neg (by simp)]; unfold arith; rw [hop'.out]; rfl⟩
          go_enter Tryd.func34, Tryd.ntmps34
          go_upto_region 1 with fail
          refine wp_world (fun W hW => ?_)
          obtain ⟨b, hb⟩ : ∃ b, w.heap.size = b := ⟨_, rfl⟩
          obtain ⟨A, c, _, _, _, _, _, hgl⟩ := h'.out.cells
          have hbg : Aside0 (b ≠ g) := ⟨by omega⟩
          have hX : W.heap[w.heap.size]? = some (.cells #[.string op, (.iface t1 u1), .nilIface] 50 (0, 0)) := by rw [hW]; exact blk_new _ _
          have hEW : Aside0 (Ev w0 g vs 0 W0 W) := ⟨h'.out.step (by rw [hW]; exact below_alloc (Below.refl _ _) _)⟩
          rw [hb] at hX
          rw [hb]
          have o0 : W.cell? ⟨b, 0, none⟩ = some (.string op) := (blk_cell hX 0).trans rfl
          have o1 : W.cell? ⟨b, 1, none⟩ = some (.iface t1 u1) := (blk_cell hX 1).trans rfl
          have o2 : W.cell? ⟨b, 2, none⟩ = some .nilIface := (blk_cell hX 2).trans rfl
          have hX' := Aside0.mk hX
          clear hW hX hgl
          go_upto_region 2 with (first
            | (go_at_call 20; (with_reducible refine (hl'.out _ hEW.out).mono ?_); rintro e w1 ⟨rfl, hE1⟩; have hE1' := Aside0.mk (hEW.out.trans hE1); obtain ⟨A1, c1, _, _, a1, _, _, hgl1⟩ := hE1.cells; have hX1 := Aside0.mk (hE1.blk hX'.out hbg.out); have o0' : w1.cell? ⟨b, 0, none⟩ = some (.string op) := (blk_cell hX1.out 0).trans rfl; have o2' : w1.cell? ⟨b, 2, none⟩ = some .nilIface := (blk_cell hX1.out 2).trans rfl; clear hE1)
            | fail)
          clear o0 o1 o2
          go_wp2_with (first
            | (go_at_call 20; (with_reducible refine (hr'.out _ hE1'.out).mono ?_); rintro e w2 ⟨rfl, hE2⟩; have hE2' := Aside0.mk (hE1'.out.trans hE2); obtain ⟨A2, c2, _, _, a2, _, _, hgl2⟩ := hE2.cells; have hX2 := Aside0.mk (hE2.blk hX1.out hbg.out); have o0'' : w2.cell? ⟨b, 0, none⟩ = some (.string op) := (blk_cell hX2.out 0).trans rfl; clear hE2 o0' o2' a1)
            | (go_at_call 33; (with_reducible refine (truth_calls _ _).mono ?_); rintro e w3 ⟨rfl, ⟨m3, hm3⟩⟩; have hb3 := Aside0.mk hm3; clear hm3)
            | (go_at_call 50; (with_reducible refine (bound_calls w0 _ g vs _ W0 hE2'.out).mono ?_); rintro e w3 ⟨rfl, hE3⟩; have hE3' := Aside0.mk hE3; clear hE3)
            | fail)
          go_ret
          obtain ⟨e1, e2⟩ := Prod.mk.inj hR.out
          rw [← e1, ← e2]
          exact ⟨rfl, (hE2'.out.step (by rw [hb3.out]; exact pw_below_drewN (Below.refl _ _) _))⟩
        · have dy : (ye != 0) = true := by simpa using hy0
          have hy0' := Aside0.mk hy0
          have hR : Aside0 ((0, ye) = (rn, re)) := ⟨by rw [← hres'.out, if_neg (by rw [hop'.out]; simp [show sLeq ≠ sAnd from by decide, show sLeq ≠ sOr from by decide]), if_pos hy0'.out]⟩
          clear hy0
          go_enter Tryd.func34, Tryd.ntmps34
          go_upto_region 1 with fail
          refine wp_world (fun W hW => ?_)
          obtain ⟨b, hb⟩ : ∃ b, w.heap.size = b := ⟨_, rfl⟩
          obtain ⟨A, c, _, _, _, _, _, hgl⟩ := h'.out.cells
          have hbg : Aside0 (b ≠ g) := ⟨by omega⟩
          have hX : W.heap[w.heap.size]? = some (.cells #[.string op, (.iface t1 u1), .nilIface] 50 (0, 0)) := by rw [hW]; exact blk_new _ _
          have hEW : Aside0 (Ev w0 g vs 0 W0 W) := ⟨h'.out.step (by rw [hW]; exact below_alloc (Below.refl _ _) _)⟩
          rw [hb] at hX
          rw [hb]
          have o0 : W.cell? ⟨b, 0, none⟩ = some (.string op) := (blk_cell hX 0).trans rfl
          have o1 : W.cell? ⟨b, 1, none⟩ = some (.iface t1 u1) := (blk_cell hX 1).trans rfl
          have o2 : W.cell? ⟨b, 2, none⟩ = some .nilIface := (blk_cell hX 2).trans rfl
          have hX' := Aside0.mk hX
          clear hW hX hgl
          go_upto_region 2 with (first
            | (go_at_call 20; (with_reducible refine (hl'.out _ hEW.out).mono ?_); rintro e w1 ⟨rfl, hE1⟩; have hE1' := Aside0.mk (hEW.out.trans hE1); obtain ⟨A1, c1, _, _, a1, _, _, hgl1⟩ := hE1.cells; have hX1 := Aside0.mk (hE1.blk hX'.out hbg.out); have o0' : w1.cell? ⟨b, 0, none⟩ = some (.string op) := (blk_cell hX1.out 0).trans rfl; have o2' : w1.cell? ⟨b, 2, none⟩ = some .nilIface := (blk_cell hX1.out 2).trans rfl; clear hE1)
            | fail)
          clear o0 o1 o2
          go_wp2_with (first
            | (go_at_call 20; (with_reducible refine (hr'.out _ hE1'.out).mono ?_); rintro e w2 ⟨rfl, hE2⟩; have hE2' := Aside0.mk (hE1'.out.trans hE2); obtain ⟨A2, c2, _, _, a2, _, _, hgl2⟩ := hE2.cells; have hX2 := Aside0.mk (hE2.blk hX1.out hbg.out); have o0'' : w2.cell? ⟨b, 0, none⟩ = some (.string op) := (blk_cell hX2.out 0).trans rfl; clear hE2 o0' o2' a1)
            | (go_at_call 33; (with_reducible refine (truth_calls _ _).mono ?_); rintro e w3 ⟨rfl, ⟨m3, hm3⟩⟩; have hb3 := Aside0.mk hm3; clear hm3)
            | (go_at_call 50; (with_reducible refine (bound_calls w0 _ g vs _ W0 hE2'.out).mono ?_); rintro e w3 ⟨rfl, hE3⟩; have hE3' := Aside0.mk hE3; clear hE3)
            | fail)
          go_ret
          obtain ⟨e1, e2⟩ := Prod.mk.inj hR.out
          rw [← e1, ← e2]
          exact ⟨rfl, hE2'.out⟩
      have h5 := Aside0.mk hop
      clear hop
      by_cases hop : op = sEq
      · have f1 : (op.toList == [43]) = false := by rw [(opF op).p1]; rw [hop]; decide
        have f2 : (op.toList == [45]) = false := by rw [(opF op).p2]; rw [hop]; decide
        have f3 : (op.toList == [42]) = false := by rw [(opF op).p3]; rw [hop]; decide
        have f4 : (op.toList == [60]) = false := by rw [(opF op).p4]; rw [hop]; decide
        have f5 : (op.toList == [60, 61]) = false := by rw [(opF op).p5]; rw [hop]; decide
        have f6 : (op.toList == [61, 61]) = true := by rw [(opF op).p6]; rw [hop]; decide
        have f7 : (op.toList == [33, 61]) = false := by rw [(opF op).p7]; rw [hop]; decide
        have f8 : (op.toList == [38, 38]) = false := by rw [(opF op).p8]; rw [hop]; decide
        have f9 : (op.toList == [124, 124]) = false := by rw [(opF op).p9]; rw [hop]; decide
        have hop' := Aside0.mk hop
        clear hop
        by_cases hy0 : ye = 0
        · subst hy0
          have hR : Aside0 ((tru (xn == yn), 0) = (rn, re)) := ⟨by rw [← hres'.out, if_neg (by rw [hop'.out]; simp [show sEq ≠ sAnd from by decide, show sEq ≠ sOr from by decide]), if_neg (by simp)]; unfold arith; rw [hop'.out]; rfl⟩
          go_enter Tryd.func34, Tryd.ntmps34
          go_upto_region 1 with fail
          refine wp_world (fun W hW => ?_)
          obtain ⟨b, hb⟩ : ∃ b, w.heap.size = b := ⟨_, rfl⟩
          obtain ⟨A, c, _, _, _, _, _, hgl⟩ := h'.out.cells
          have hbg : Aside0 (b ≠ g) := ⟨by omega⟩
          have hX : W.heap[w.heap.size]? = some (.cells #[.string op, (.iface t1 u1), .nilIface] 50 (0, 0)) := by rw [hW]; exact blk_new _ _
          have hEW : Aside0 (Ev w0 g vs 0 W0 W) := ⟨h'.out.step (by rw [hW]; exact below_alloc (Below.refl _ _) _)⟩
          rw [hb] at hX
          rw [hb]
          have o0 : W.cell? ⟨b, 0, none⟩ = some (.string op) := (blk_cell hX 0).trans rfl
          have o1 : W.cell? ⟨b, 1, none⟩ = some (.iface t1 u1) := (blk_cell hX 1).trans rfl
          have o2 : W.cell? ⟨b, 2, none⟩ = some .nilIface := (blk_cell hX 2).trans rfl
          have hX' := Aside0.mk hX
          clear hW hX hgl
          go_upto_region 2 with (first
            | (go_at_call 20; (with_reducible refine (hl'.out _ hEW.out).mono ?_); rintro e w1 ⟨rfl, hE1⟩; have hE1' := Aside0.mk (hEW.out.trans hE1); obtain ⟨A1, c1, _, _, a1, _, _, hgl1⟩ := hE1.cells; have hX1 := Aside0.mk (hE1.blk hX'.out hbg.out); have o0' : w1.cell? ⟨b, 0, none⟩ = some (.string op) := (blk_cell hX1.out 0).trans rfl; have o2' : w1.cell? ⟨b, 2, none⟩ = some .nilIface := (blk_cell hX1.out 2).trans rfl; clear hE1)
            | fail)
          clear o0 o1 o2
          go_wp2_with (first
            | (go_at_call 20; (with_reducible refine (hr'.out _ hE1'.out).mono ?_); rintro e w2 ⟨rfl, hE2⟩; have hE2' := Aside0.mk (hE1'.out.trans hE2); obtain ⟨A2, c2, _, _, a2, _, _, hgl2⟩ := hE2.cells; have hX2 := Aside0.mk (hE2.blk hX1.out hbg.out); have o0'' : w2.cell? ⟨b, 0, none⟩ = some (.string op) := (blk_cell hX2.out 0).trans rfl; clear hE2 o0' o2' a1)
            | (go_at_call 33; (with_reducible refine (truth_calls _ _).mono ?_); rintro e w3 ⟨rfl, ⟨m3, hm3⟩⟩; have hb3 := Aside0.mk hm3; clear hm3)
            | (go_at_call 50; (with_reducible refine (bound_calls w0 _ g vs _ W0 hE2'.out).mono ?_); rintro e w3 ⟨rfl, hE3⟩; have hE3' := Aside0.mk hE3; clear hE3)
            | fail)
          go_ret
          obtain ⟨e1, e2⟩ := Prod.mk.inj hR.out
          rw [← e1, ← e2]
          exact ⟨rfl, (hE2'.out.step (by rw [hb3.out]; exact pw_below_drewN (Below.refl _ _) _))⟩
        · have dy : (ye != 0) = true := by simpa using hy0
          have hy0' := Aside0.mk hy0
          have hR : Aside0 ((0, ye) = (rn, re)) := ⟨by rw [← hres'.out, if_neg (by rw [hop'.out]; simp [show sEq ≠ sAnd from by decide, show sEq ≠ sOr from by decide]), if_pos hy0'.out]⟩
          clear hy0
          go_enter Tryd.func34, Tryd.ntmps34
          go_upto_region 1 with fail
          refine wp_world (fun W hW => ?_)
          obtain ⟨b, hb⟩ : ∃ b, w.heap.size = b := ⟨_, rfl⟩
          obtain ⟨A, c, _, _, _, _, _, hgl⟩ := h'.out.cells
          have hbg : Aside0 (b ≠ g) := ⟨by omega⟩
          have hX : W.heap[w.heap.size]? = some (.cells #[.string op, (.iface t1 u1), .nilIface] 50 (0, 0)) := by rw [hW]; exact blk_new _ _
          have hEW : Aside0 (Ev w0 g vs 0 W0 W) := ⟨h'.out.step (by rw [hW]; exact below_alloc (Below.refl _ _) _)⟩
          rw [hb] at hX
          rw [hb]
          have o0 : W.cell? ⟨b, 0, none⟩ = some (.string op) := (blk_cell hX 0).trans rfl
          have o1 : W.cell? ⟨b, 1, none⟩ = some (.iface t1 u1) := (blk_cell hX 1).trans rfl
          have o2 : W.cell? ⟨b, 2, none⟩ = some .nilIface := (blk_cell hX 2).trans rfl
          have hX' := Aside0.mk hX
          clear hW hX hgl
          go_upto_region 2 with (first
            | (go_at_call 20; (with_reducible refine (hl'.out _ hEW.out).mono ?_); rintro e w1 ⟨rfl, hE1⟩; have hE1' := Aside0.mk (hEW.out.trans hE1); obtain ⟨A1, c1, _, _, a1, _, _, hgl1⟩ := hE1.cells; have hX1 := Aside0.mk (hE1.blk hX'.out hbg.out); have o0' : w1.cell? ⟨b, 0, none⟩ = some (.string op) := (blk_cell hX1.out 0).trans rfl; have o2' : w1.cell? ⟨b, 2, none⟩ = some .nilIface := (blk_cell hX1.out 2).trans rfl; clear hE1)
            | fail)
          clear o0 o1 o2
          go_wp2_with (first
            | (go_at_call 20; (with_reducible refine (hr'.out _ hE1'.out).mono ?_); rintro e w2 ⟨rfl, hE2⟩; have hE2' := Aside0.mk (hE1'.out.trans hE2); obtain ⟨A2, c2, _, _, a2, _, _, hgl2⟩ := hE2.cells; have hX2 := Aside0.mk (hE2.blk hX1.out hbg.out); have o0'' : w2.cell? ⟨b, 0, none⟩ = some (.string op) := (blk_cell hX2.out 0).trans rfl; clear hE2 o0' o2' a1)
            | (go_at_call 33; (with_reducible refine (truth_calls _ _).mono ?_); rintro e w3 ⟨rfl, ⟨m3, hm3⟩⟩; have hb3 := Aside0.mk hm3; clear hm3)
            | (go_at_call 50; (with_reducible refine (bound_calls w0 _ g vs _ W0 hE2'.out).mono ?_); rintro e w3 ⟨rfl, hE3⟩; have hE3' := Aside0.mk hE3; clear hE3)
            | fail)
          go_ret
          obtain ⟨e1, e2⟩ := Prod.mk.inj hR.out
          rw [← e1, ← e2]
          exact ⟨rfl, hE2'.out⟩
      have h6 := Aside0.mk hop
      clear hop
      by_cases hop : op = sNe
      · have f1 : (op.toList == [43]) = false := by rw [(opF op).p1]; rw [hop]; decide
        have f2 : (op.toList == [45]) = false := by rw [(opF op).p2]; rw [hop]; decide
        have f3 : (op.toList == [42]) = false := by rw [(opF op).p3]; rw [hop]; decide
        have f4 : (op.toList == [60]) = false := by rw [(opF op).p4]; rw [hop]; decide
        have f5 : (op.toList == [60, 61]) = false := by rw [(opF op).p5]; rw [hop]; decide
        have f6 : (op.toList == [61, 61]) = false := by rw [(opF op).p6]; rw [hop]; decide
        have f7 : (op.toList == [33, 61]) = true := by rw [(opF op).p7]; rw [hop]; decide
        have f8 : (op.toList == [38, 38]) = false := by rw [(opF op).p8]; rw [hop]; decide
        have f9 : (op.toList == [124, 124]) = false := by rw [(opF op).p9]; rw [hop]; decide
        have hop' := Aside0.mk hop
        clear hop
        by_cases hy0 : ye = 0
        · subst hy0
          have hR : Aside0 ((tru (xn != yn), 0) = (rn, re)) := ⟨by rw [← hres'.out, if_neg (by rw [hop'.out]; simp [show sNe ≠ sAnd from by decide, show sNe ≠ sOr from by decide]), if_neg (by simp)]; unfold arith; rw [hop'.out]; rfl⟩
          go_enter Tryd.func34, Tryd.ntmps34
          go_upto_region 1 with fail
          refine wp_world (fun W hW => ?_)
          obtain ⟨b, hb⟩ : ∃ b, w.heap.size = b := ⟨_, rfl⟩
          obtain ⟨A, c, _, _, _, _, _, hgl⟩ := h'.out.cells
          have hbg : Aside0 (b ≠ g) := ⟨by omega⟩
          have hX : W.heap[w.heap.size]? = some (.cells #[.string op, (.iface t1 u1), .nilIface] 50 (0, 0)) := by rw [hW]; exact blk_new _ _
          have hEW : Aside0 (Ev w0 g vs 0 W0 W) := ⟨h'.out.step (by rw [hW]; exact below_alloc (Below.refl _ _) _)⟩
          rw [hb] at hX
          rw [hb]
          have o0 : W.cell? ⟨b, 0, none⟩ = some (.string op) := (blk_cell hX 0).trans rfl
          have o1 : W.cell? ⟨b, 1, none⟩ = some (.iface t1 u1) := (blk_cell hX 1).trans rfl
          have o2 : W.cell? ⟨b, 2, none⟩ = some .nilIface := (blk_cell hX 2).trans rfl
          have hX' := Aside0.mk hX
          clear hW hX hgl
          go_upto_region 2 with (first
            | (go_at_call 20; (with_reducible refine (hl'.out _ hEW.out).mono ?_); rintro e w1 ⟨rfl, hE1⟩; have hE1' := Aside0.mk (hEW.out.trans hE1); obtain ⟨A1, c1, _, _, a1, _, _, hgl1⟩ := hE1.cells; have hX1 := Aside0.mk (hE1.blk hX'.out hbg.out); have o0' : w1.cell? ⟨b, 0, none⟩ = some (.string op) := (blk_cell hX1.out 0).trans rfl; have o2' : w1.cell? ⟨b, 2, none⟩ = some .nilIface := (blk_cell hX1.out 2).trans rfl; clear hE1)
            | fail)
          clear o0 o1 o2
          go_wp2_with (first
            | (go_at_call 20; (with_reducible refine (hr'.out _ hE1'.out).mono ?_); rintro e w2 ⟨rfl, hE2⟩; have hE2' := Aside0.mk (hE1'.out.trans hE2); obtain ⟨A2, c2, _, _, a2, _, _, hgl2⟩ := hE2.cells; have hX2 := Aside0.mk (hE2.blk hX1.out hbg.out); have o0'' : w2.cell? ⟨b, 0, none⟩ = some (.string op) := (blk_cell hX2.out 0).trans rfl; clear hE2 o0' o2' a1)
            | (go_at_call 33; (with_reducible refine (truth_calls _ _).mono ?_); rintro e w3 ⟨rfl, ⟨m3, hm3⟩⟩; have hb3 := Aside0.mk hm3; clear hm3)
            | (go_at_call 50; (with_reducible refine (bound_calls w0 _ g vs _ W0 hE2'.out).mono ?_); rintro e w3 ⟨rfl, hE3⟩; have hE3' := Aside0.mk hE3; clear hE3)
            | fail)
          go_ret
          obtain ⟨e1, e2⟩ := Prod.mk.inj hR.out
          rw [← e1, ← e2]
          exact ⟨rfl, (hE2'.out.step (by rw [hb3.out]; exact pw_below_drewN (Below.refl _ _) _))⟩
        · have dy : (ye != 0) = true := by simpa using hy0
          have hy0' := Aside0.mk hy0
          have hR : Aside0 ((0, ye) = (rn, re)) := ⟨by rw [← hres'.out, if_neg (by rw [hop'.out]; simp [show sNe ≠ sAnd from by decide, show sNe ≠ sOr from by decide]), if_pos hy0'.out]⟩
          clear hy0
          go_enter Tryd.func34, Tryd.ntmps34
          go_upto_region 1 with fail
          refine wp_world (fun W hW => ?_)
          obtain ⟨b, hb⟩ : ∃ b, w.heap.size = b := ⟨_, rfl⟩
          obtain ⟨A, c, _, _, _, _, _, hgl⟩ := h'.out.cells
          have hbg : Aside0 (b ≠ g) := ⟨by omega⟩
          have hX : W.heap[w.heap.size]? = some (.cells #[.string op, (.iface t1 u1), .nilIface] 50 (0, 0)) := by rw [hW]; exact blk_new _ _
          have hEW : Aside0 (Ev w0 g vs 0 W0 W) := ⟨h'.out.step (by rw [hW]; exact below_alloc (Below.refl _ _) _)⟩
          rw [hb] at hX
          rw [hb]
          have o0 : W.cell? ⟨b, 0, none⟩ = some (.string op) := (blk_cell hX 0).trans rfl
          have o1 : W.cell? ⟨b, 1, none⟩ = some (.iface t1 u1) := (blk_cell hX 1).trans rfl
          have o2 : W.cell? ⟨b, 2, none⟩ = some .nilIface := (blk_cell hX 2).trans rfl
          have hX' := Aside0.mk hX
          clear hW hX hgl
          go_upto_region 2 with (first
            | (go_at_call 20; (with_reducible refine (hl'.out _ hEW.out).mono ?_); rintro e w1 ⟨rfl, hE1⟩; have hE1' := Aside0.mk (hEW.out.trans hE1); obtain ⟨A1, c1, _, _, a1, _, _, hgl1⟩ := hE1.cells; have hX1 := Aside0.mk (hE1.blk hX'.out hbg.out); have o0' : w1.cell? ⟨b, 0, none⟩ = some (.string op) := (blk_cell hX1.out 0).trans rfl; have o2' : w1.cell? ⟨b, 2, none⟩ = some .nilIface := (blk_cell hX1.out 2).trans rfl; clear hE1)
            | fail)
          clear o0 o1 o2
          go_wp2_with (first
            | (go_at_call 20; (with_reducible refine (hr'.out _ hE1'.out).mono ?_); rintro e w2 ⟨rfl, hE2⟩; have hE2' := Aside0.mk (hE1'.out.trans hE2); obtain ⟨A2, c2, _, _, a2, _, _, hgl2⟩ := hE2.cells; have hX2 := Aside0.mk (hE2.blk hX1.out hbg.out); have o0'' : w2.cell? ⟨b, 0, none⟩ = some (.string op) := (blk_cell hX2.out 0).trans rfl; clear hE2 o0' o2' a1)
            | (go_at_call 33; (with_reducible refine (truth_calls _ _).mono ?_); rintro e w3 ⟨rfl, ⟨m3, hm3⟩⟩; have hb3 := Aside0.mk hm3; clear hm3)
            | (go_at_call 50; (with_reducible refine (bound_calls w0 _ g vs _ W0 hE2'.out).mono ?_); rintro e w3 ⟨rfl, hE3⟩; have hE3' := Aside0.mk hE3; clear hE3)
            | fail)
          go_ret
          obtain ⟨e1, e2⟩ := Prod.mk.inj hR.out
          rw [← e1, ← e2]
          exact ⟨rfl, hE2'.out⟩
      have h7 := Aside0.mk hop
      clear hop
      by_cases hop : op = sAnd
      · have f1 : (op.toList == [43]) = false := by rw [(opF op).p1]; rw [hop]; decide
        have f2 : (op.toList == [45]) = false := by rw [(opF op).p2]; rw [hop]; decide
        have f3 : (op.toList == [42]) = false := by rw [(opF op).p3]; rw [hop]; decide
        have f4 : (op.toList == [60]) = false := by rw [(opF op).p4]; rw [hop]; decide
        have f5 : (op.toList == [60, 61]) = false := by rw [(opF op).p5]; rw [hop]; decide
        have f6 : (op.toList == [61, 61]) = false := by rw [(opF op).p6]; rw [hop]; decide
        have f7 : (op.toList == [33, 61]) = false := by rw [(opF op).p7]; rw [hop]; decide
        have f8 : (op.toList == [38, 38]) = true := by rw [(opF op).p8]; rw [hop]; decide
        have f9 : (op.toList == [124, 124]) = false := by rw [(opF op).p9]; rw [hop]; decide
        have hop' := Aside0.mk hop
        clear hop
        by_cases hq : xn = 0
        · subst hq
          have hR : Aside0 ((tru ((0 : Int) != 0), 0) = (rn, re)) := ⟨by rw [← hres'.out, if_pos (Or.inr (Or.inl ⟨hop'.out, rfl⟩))]⟩
          go_enter Tryd.func34, Tryd.ntmps34
          go_upto_region 1 with fail
          refine wp_world (fun W hW => ?_)
          obtain ⟨b, hb⟩ : ∃ b, w.heap.size = b := ⟨_, rfl⟩
          obtain ⟨A, c, _, _, _, _, _, hgl⟩ := h'.out.cells
          have hbg : Aside0 (b ≠ g) := ⟨by omega⟩
          have hX : W.heap[w.heap.size]? = some (.cells #[.string op, (.iface t1 u1), .nilIface] 50 (0, 0)) := by rw [hW]; exact blk_new _ _
          have hEW : Aside0 (Ev w0 g vs 0 W0 W) := ⟨h'.out.step (by rw [hW]; exact below_alloc (Below.refl _ _) _)⟩
          rw [hb] at hX
          rw [hb]
          have o0 : W.cell? ⟨b, 0, none⟩ = some (.string op) := (blk_cell hX 0).trans rfl
          have o1 : W.cell? ⟨b, 1, none⟩ = some (.iface t1 u1) := (blk_cell hX 1).trans rfl
          have o2 : W.cell? ⟨b, 2, none⟩ = some .nilIface := (blk_cell hX 2).trans rfl
          have hX' := Aside0.mk hX
          clear hW hX hgl
          go_upto_region 2 with (first
            | (go_at_call 20; (with_reducible refine (hl'.out _ hEW.out).mono ?_); rintro e w1 ⟨rfl, hE1⟩; have hE1' := Aside0.mk (hEW.out.trans hE1); obtain ⟨A1, c1, _, _, a1, _, _, hgl1⟩ := hE1.cells; have hX1 := Aside0.mk (hE1.blk hX'.out hbg.out); have o0' : w1.cell? ⟨b, 0, none⟩ = some (.string op) := (blk_cell hX1.out 0).trans rfl; have o2' : w1.cell? ⟨b, 2, none⟩ = some .nilIface := (blk_cell hX1.out 2).trans rfl; clear hE1)
            | fail)
          clear o0 o1 o2
          go_wp2_with (first
            | (go_at_call 20; (with_reducible refine (hr'.out _ hE1'.out).mono ?_); rintro e w2 ⟨rfl, hE2⟩; have hE2' := Aside0.mk (hE1'.out.trans hE2); obtain ⟨A2, c2, _, _, a2, _, _, hgl2⟩ := hE2.cells; have hX2 := Aside0.mk (hE2.blk hX1.out hbg.out); have o0'' : w2.cell? ⟨b, 0, none⟩ = some (.string op) := (blk_cell hX2.out 0).trans rfl; clear hE2 o0' o2' a1)
            | (go_at_call 33; (with_reducible refine (truth_calls _ _).mono ?_); rintro e w3 ⟨rfl, ⟨m3, hm3⟩⟩; have hb3 := Aside0.mk hm3; clear hm3)
            | (go_at_call 50; (with_reducible refine (bound_calls w0 _ g vs _ W0 hE2'.out).mono ?_); rintro e w3 ⟨rfl, hE3⟩; have hE3' := Aside0.mk hE3; clear hE3)
            | fail)
          go_ret
          obtain ⟨e1, e2⟩ := Prod.mk.inj hR.out
          rw [← e1, ← e2]
          exact ⟨rfl, (hE1'.out.step (by rw [hb3.out]; exact pw_below_drewN (Below.refl _ _) _))⟩
        · have dq : (xn == 0) = false := by simpa using hq
          have hq' := Aside0.mk hq
          clear hq
          by_cases hy0 : ye = 0
          · subst hy0
            have hR : Aside0 ((tru (yn != 0), 0) = (rn, re)) := ⟨by rw [← hres'.out, if_neg (by rw [hop'.out]; simp [hq'.out, show sAnd ≠ sOr from by decide]), if_neg (by simp)]; unfold arith; rw [hop'.out]; rfl⟩
            go_enter Tryd.func34, Tryd.ntmps34
            go_upto_region 1 with fail
            refine wp_world (fun W hW => ?_)
            obtain ⟨b, hb⟩ : ∃ b, w.heap.size = b := ⟨_, rfl⟩
            obtain ⟨A, c, _, _, _, _, _, hgl⟩ := h'.out.cells
            have hbg : Aside0 (b ≠ g) := ⟨by omega⟩
            have hX : W.heap[w.heap.size]? = some (.cells #[.string op, (.iface t1 u1), .nilIface] 50 (0, 0)) := by rw [hW]; exact blk_new _ _
            have hEW : Aside0 (Ev w0 g vs 0 W0 W) := ⟨h'.out.step (by rw [hW]; exact below_alloc (Below.refl _ _) _)⟩
            rw [hb] at hX
            rw [hb]
            have o0 : W.cell? ⟨b, 0, none⟩ = some (.string op) := (blk_cell hX 0).trans rfl
            have o1 : W.cell? ⟨b, 1, none⟩ = some (.iface t1 u1) := (blk_cell hX 1).trans rfl
            have o2 : W.cell? ⟨b, 2, none⟩ = some .nilIface := (blk_cell hX 2).trans rfl
            have hX' := Aside0.mk hX
            clear hW hX hgl
            go_upto_region 2 with (first
              | (go_at_call 20; (with_reducible refine (hl'.out _ hEW.out).mono ?_); rintro e w1 ⟨rfl, hE1⟩; have hE1' := Aside0.mk (hEW.out.trans hE1); obtain ⟨A1, c1, _, _, a1, _, _, hgl1⟩ := hE1.cells; have hX1 := Aside0.mk (hE1.blk hX'.out hbg.out); have o0' : w1.cell? ⟨b, 0, none⟩ = some (.string op) := (blk_cell hX1.out 0).trans rfl; have o2' : w1.cell? ⟨b, 2, none⟩ = some .nilIface := (blk_cell hX1.out 2).trans rfl; clear hE1)
              | fail)
            clear o0 o1 o2
            go_wp2_with (first
              | (go_at_call 20; (with_reducible refine (hr'.out _ hE1'.out).mono ?_); rintro e w2 ⟨rfl, hE2⟩; have hE2' := Aside0.mk (hE1'.out.trans hE2); obtain ⟨A2, c2, _, _, a2, _, _, hgl2⟩ := hE2.cells; have hX2 := Aside0.mk (hE2.blk hX1.out hbg.out); have o0'' : w2.cell? ⟨b, 0, none⟩ = some (.string op) := (blk_cell hX2.out 0).trans rfl; clear hE2 o0' o2' a1)
              | (go_at_call 33; (with_reducible refine (truth_calls _ _).mono ?_); rintro e w3 ⟨rfl, ⟨m3, hm3⟩⟩; have hb3 := Aside0.mk hm3; clear hm3)
              | (go_at_call 50; (with_reducible refine (bound_calls w0 _ g vs _ W0 hE2'.out).mono ?_); rintro e w3 ⟨rfl, hE3⟩; have hE3' := Aside0.mk hE3; clear hE3)
              | fail)
            go_ret
            obtain ⟨e1, e2⟩ := Prod.mk.inj hR.out
            rw [← e1, ← e2]
            exact ⟨rfl, (hE2'.out.step (by rw [hb3.out]; exact pw_below_drewN (Below.refl _ _) _))⟩
          · have dy : (ye != 0) = true := by simpa using hy0
            have hy0' := Aside0.mk hy0
            have hR : Aside0 ((0, ye) = (rn, re)) := ⟨by rw [← hres'.out, if_neg (by rw [hop'.out]; simp [hq'.out, show sAnd ≠ sOr from by decide]), if_pos hy0'.out]⟩
            clear hy0
            go_enter Tryd.func34, Tryd.ntmps34
            go_upto_region 1 with fail
            refine wp_world (fun W hW => ?_)
            obtain ⟨b, hb⟩ : ∃ b, w.heap.size = b := ⟨_, rfl⟩
            obtain ⟨A, c, _, _, _, _, _, hgl⟩ := h'.out.cells
            have hbg : Aside0 (b ≠ g) := ⟨by omega⟩
            have hX : W.heap[w.heap.size]? = some (.cells #[.string op, (.iface t1 u1), .nilIface] 50 (0, 0)) := by rw [hW]; exact blk_new _ _
            have hEW : Aside0 (Ev w0 g vs 0 W0 W) := ⟨h'.out.step (by rw [hW]; exact below_alloc (Below.refl _ _) _)⟩
            rw [hb] at hX
            rw [hb]
            have o0 : W.cell? ⟨b, 0, none⟩ = some (.string op) := (blk_cell hX 0).trans rfl
            have o1 : W.cell? ⟨b, 1, none⟩ = some (.iface t1 u1) := (blk_cell hX 1).trans rfl
            have o2 : W.cell? ⟨b, 2, none⟩ = some .nilIface := (blk_cell hX 2).trans rfl
            have hX' := Aside0.mk hX
            clear hW hX hgl
            go_upto_region 2 with (first
              | (go_at_call 20; (with_reducible refine (hl'.out _ hEW.out).mono ?_); rintro e w1 ⟨rfl, hE1⟩; have hE1' := Aside0.mk (hEW.out.trans hE1); obtain ⟨A1, c1, _, _, a1, _, _, hgl1⟩ := hE1.cells; have hX1 := Aside0.mk (hE1.blk hX'.out hbg.out); have o0' : w1.cell? ⟨b, 0, none⟩ = some (.string op) := (blk_cell hX1.out 0).trans rfl; have o2' : w1.cell? ⟨b, 2, none⟩ = some .nilIface := (blk_cell hX1.out 2).trans rfl; clear hE1)
              | fail)
            clear o0 o1 o2
            go_wp2_with (first
              | (go_at_call 20; (with_reducible refine (hr'.out _ hE1'.out).mono ?_); rintro e w2 ⟨rfl, hE2⟩; have hE2' := Aside0.mk (hE1'.out.trans hE2); obtain ⟨A2, c2, _, _, a2, _, _, hgl2⟩ := hE2.cells; have hX2 := Aside0.mk (hE2.blk hX1.out hbg.out); have o0'' : w2.cell? ⟨b, 0, none⟩ = some (.string op) := (blk_cell hX2.out 0).trans rfl; clear hE2 o0' o2' a1)
              | (go_at_call 33; (with_reducible refine (truth_calls _ _).mono ?_); rintro e w3 ⟨rfl, ⟨m3, hm3⟩⟩; have hb3 := Aside0.mk hm3; clear hm3)
              | (go_at_call 50; (with_reducible refine (bound_calls w0 _ g vs _ W0 hE2'.out).mono ?_); rintro e w3 ⟨rfl, hE3⟩; have hE3' := Aside0.mk hE3; clear hE3)
              | fail)
            go_ret
            obtain ⟨e1, e2⟩ := Prod.mk.inj hR.out
            rw [← e1, ← e2]
            exact ⟨rfl, hE2'.out⟩
      have h8 := Aside0.mk hop
      clear hop
      by_cases hop : op = sOr
      · have f1 : (op.toList == [43]) = false := by rw [(opF op).p1]; rw [hop]; decide
        have f2 : (op.toList == [45]) = false := by rw [(opF op).p2]; rw [hop]; decide
        have f3 : (op.toList == [42]) = false := by rw [(opF op).p3]; rw [hop]; decide
        have f4 : (op.toList == [60]) = false := by rw [(opF op).p4]; rw [hop]; decide
        have f5 : (op.toList == [60, 61]) = false := by rw [(opF op).p5]; rw [hop]; decide
        have f6 : (op.toList == [61, 61]) = false := by rw [(opF op).p6]; rw [hop]; decide
        have f7 : (op.toList == [33, 61]) = false := by rw [(opF op).p7]; rw [hop]; decide
        have f8 : (op.toList == [38, 38]) = false := by rw [(opF op).p8]; rw [hop]; decide
        have f9 : (op.toList == [124, 124]) = true := by rw [(opF op).p9]; rw [hop]; decide
        have hop' := Aside0.mk hop
        clear hop
        by_cases hq : xn = 0
        · subst hq
          by_cases hy0 : ye = 0
          · subst hy0
            have hR : Aside0 ((tru (yn != 0), 0) = (rn, re)) := ⟨by rw [← hres'.out, if_neg (by rw [hop'.out]; simp [show sOr ≠ sAnd from by decide]), if_neg (by simp)]; unfold arith; rw [hop'.out]; rfl⟩
            go_enter Tryd.func34, Tryd.ntmps34
            go_upto_region 1 with fail
            refine wp_world (fun W hW => ?_)
            obtain ⟨b, hb⟩ : ∃ b, w.heap.size = b := ⟨_, rfl⟩
            obtain ⟨A, c, _, _, _, _, _, hgl⟩ := h'.out.cells
            have hbg : Aside0 (b ≠ g) := ⟨by omega⟩
            have hX : W.heap[w.heap.size]? = some (.cells #[.string op, (.iface t1 u1), .nilIface] 50 (0, 0)) := by rw [hW]; exact blk_new _ _
            have hEW : Aside0 (Ev w0 g vs 0 W0 W) := ⟨h'.out.step (by rw [hW]; exact below_alloc (Below.refl _ _) _)⟩
            rw [hb] at hX
            rw [hb]
            have o0 : W.cell? ⟨b, 0, none⟩ = some (.string op) := (blk_cell hX 0).trans rfl
            have o1 : W.cell? ⟨b, 1, none⟩ = some (.iface t1 u1) := (blk_cell hX 1).trans rfl
            have o2 : W.cell? ⟨b, 2, none⟩ = some .nilIface := (blk_cell hX 2).trans rfl
            have hX' := Aside0.mk hX
            clear hW hX hgl
            go_upto_region 2 with (first
              | (go_at_call 20; (with_reducible refine (hl'.out _ hEW.out).mono ?_); rintro e w1 ⟨rfl, hE1⟩; have hE1' := Aside0.mk (hEW.out.trans hE1); obtain ⟨A1, c1, _, _, a1, _, _, hgl1⟩ := hE1.cells; have hX1 := Aside0.mk (hE1.blk hX'.out hbg.out); have o0' : w1.cell? ⟨b, 0, none⟩ = some (.string op) := (blk_cell hX1.out 0).trans rfl; have o2' : w1.cell? ⟨b, 2, none⟩ = some .nilIface := (blk_cell hX1.out 2).trans rfl; clear hE1)
              | fail)
            clear o0 o1 o2
            go_wp2_with (first
              | (go_at_call 20; (with_reducible refine (hr'.out _ hE1'.out).mono ?_); rintro e w2 ⟨rfl, hE2⟩; have hE2' := Aside0.mk (hE1'.out.trans hE2); obtain ⟨A2, c2, _, _, a2, _, _, hgl2⟩ := hE2.cells; have hX2 := Aside0.mk (hE2.blk hX1.out hbg.out); have o0'' : w2.cell? ⟨b, 0, none⟩ = some (.string op) := (blk_cell hX2.out 0).trans rfl; clear hE2 o0' o2' a1)
              | (go_at_call 33; (with_reducible refine (truth_calls _ _).mono ?_); rintro e w3 ⟨rfl, ⟨m3, hm3⟩⟩; have hb3 := Aside0.mk hm3; clear hm3)
              | (go_at_call 50; (with_reducible refine (bound_calls w0 _ g vs _ W0 hE2'.out).mono ?_); rintro e w3 ⟨rfl, hE3⟩; have hE3' := Aside0.mk hE3; clear hE3)
              | fail)
            go_ret
            obtain ⟨e1, e2⟩ := Prod.mk.inj hR.out
            rw [← e1, ← e2]
            exact ⟨rfl, (hE2'.out.step (by rw [hb3.out]; exact pw_below_drewN (Below.refl _ _) _))⟩
          · have dy : (ye != 0) = true := by simpa using hy0
            have hy0' := Aside0.mk hy0
            have hR : Aside0 ((0, ye) = (rn, re)) := ⟨by rw [← hres'.out, if_neg (by rw [hop'.out]; simp [show sOr ≠ sAnd from by decide]), if_pos hy0'.out]⟩
            clear hy0
            go_enter Tryd.func34, Tryd.ntmps34
            go_upto_region 1 with fail
            refine wp_world (fun W hW => ?_)
            obtain ⟨b, hb⟩ : ∃ b, w.heap.size = b := ⟨_, rfl⟩
            obtain ⟨A, c, _, _, _, _, _, hgl⟩ := h'.out.cells
            have hbg : Aside0 (b ≠ g) := ⟨by omega⟩
            have hX : W.heap[w.heap.size]? = some (.cells #[.string op, (.iface t1 u1), .nilIface] 50 (0, 0)) := by rw [hW]; exact blk_new _ _
            have hEW : Aside0 (Ev w0 g vs 0 W0 W) := ⟨h'.out.step (by rw [hW]; exact below_alloc (Below.refl _ _) _)⟩
            rw [hb] at hX
            rw [hb]
            have o0 : W.cell? ⟨b, 0, none⟩ = some (.string op) := (blk_cell hX 0).trans rfl
            have o1 : W.cell? ⟨b, 1, none⟩ = some (.iface t1 u1) := (blk_cell hX 1).trans rfl
            have o2 : W.cell? ⟨b, 2, none⟩ = some .nilIface := (blk_cell hX 2).trans rfl
            have hX' := Aside0.mk hX
            clear hW hX hgl
            go_upto_region 2 with (first
              | (go_at_call 20; (with_reducible refine (hl'.out _ hEW.out).mono ?_); rintro e w1 ⟨rfl, hE1⟩; have hE1' := Aside0.mk (hEW.out.trans hE1); obtain ⟨A1, c1, _, _, a1, _, _, hgl1⟩ := hE1.cells; have hX1 := Aside0.mk (hE1.blk hX'.out hbg.out); have o0' : w1.cell? ⟨b, 0, none⟩ = some (.string op) := (blk_cell hX1.out 0).trans rfl; have o2' : w1.cell? ⟨b, 2, none⟩ = some .nilIface := (blk_cell hX1.out 2).trans rfl; clear hE1)
              | fail)
            clear o0 o1 o2
            go_wp2_with (first
              | (go_at_call 20; (with_reducible refine (hr'.out _ hE1'.out).mono ?_); rintro e w2 ⟨rfl, hE2⟩; have hE2' := Aside0.mk (hE1'.out.trans hE2); obtain ⟨A2, c2, _, _, a2, _, _, hgl2⟩ := hE2.cells; have hX2 := Aside0.mk (hE2.blk hX1.out hbg.out); have o0'' : w2.cell? ⟨b, 0, none⟩ = some (.string op) := (blk_cell hX2.out 0).trans rfl; clear hE2 o0' o2' a1)
              | (go_at_call 33; (with_reducible refine (truth_calls _ _).mono ?_); rintro e w3 ⟨rfl, ⟨m3, hm3⟩⟩; have hb3 := Aside0.mk hm3; clear hm3)
              | (go_at_call 50; (with_reducible refine (bound_calls w0 _ g vs _ W0 hE2'.out).mono ?_); rintro e w3 ⟨rfl, hE3⟩; have hE3' := Aside0.mk hE3; clear hE3)
              | fail)
            go_ret
            obtain ⟨e1, e2⟩ := Prod.mk.inj hR.out
            rw [← e1, ← e2]
            exact ⟨rfl, hE2'.out⟩
        · have dq : (xn != 0) = true := by simpa using hq
          have hq' := Aside0.mk hq
          clear hq
          have hR : Aside0 ((tru true, 0) = (rn, re)) := ⟨by rw [← hres'.out, if_pos (Or.inr (Or.inr ⟨hop'.out, hq'.out⟩)), dq]⟩
          go_enter Tryd.func34, Tryd.ntmps34
          go_upto_region 1 with fail
          refine wp_world (fun W hW => ?_)
          obtain ⟨b, hb⟩ : ∃ b, w.heap.size = b := ⟨_, rfl⟩
          obtain ⟨A, c, _, _, _, _, _, hgl⟩ := h'.out.cells
          have hbg : Aside0 (b ≠ g) := ⟨by omega⟩
          have hX : W.heap[w.heap.size]? = some (.cells #[.string op, (.iface t1 u1), .nilIface] 50 (0, 0)) := by rw [hW]; exact blk_new _ _
          have hEW : Aside0 (Ev w0 g vs 0 W0 W) := ⟨h'.out.step (by rw [hW]; exact below_alloc (Below.refl _ _) _)⟩
          rw [hb] at hX
          rw [hb]
          have o0 : W.cell? ⟨b, 0, none⟩ = some (.string op) := (blk_cell hX 0).trans rfl
          have o1 : W.cell? ⟨b, 1, none⟩ = some (.iface t1 u1) := (blk_cell hX 1).trans rfl
          have o2 : W.cell? ⟨b, 2, none⟩ = some .nilIface := (blk_cell hX 2).trans rfl
          have hX' := Aside0.mk hX
          clear hW hX hgl
          go_upto_region 2 with (first
            | (go_at_call 20; (with_reducible refine (hl'.out _ hEW.out).mono ?_); rintro e w1 ⟨rfl, hE1⟩; have hE1' := Aside0.mk (hEW.out.trans hE1); obtain ⟨A1, c1, _, _, a1, _, _, hgl1⟩ := hE1.cells; have hX1 := Aside0.mk (hE1.blk hX'.out hbg.out); have o0' : w1.cell? ⟨b, 0, none⟩ = some (.string op) := (blk_cell hX1.out 0).trans rfl; have o2' : w1.cell? ⟨b, 2, none⟩ = some .nilIface := (blk_cell hX1.out 2).trans rfl; clear hE1)
            | fail)
          clear o0 o1 o2
          go_wp2_with (first
            | (go_at_call 20; (with_reducible refine (hr'.out _ hE1'.out).mono ?_); rintro e w2 ⟨rfl, hE2⟩; have hE2' := Aside0.mk (hE1'.out.trans hE2); obtain ⟨A2, c2, _, _, a2, _, _, hgl2⟩ := hE2.cells; have hX2 := Aside0.mk (hE2.blk hX1.out hbg.out); have o0'' : w2.cell? ⟨b, 0, none⟩ = some (.string op) := (blk_cell hX2.out 0).trans rfl; clear hE2 o0' o2' a1)
            | (go_at_call 33; (with_reducible refine (truth_calls _ _).mono ?_); rintro e w3 ⟨rfl, ⟨m3, hm3⟩⟩; have hb3 := Aside0.mk hm3; clear hm3)
            | (go_at_call 50; (with_reducible refine (bound_calls w0 _ g vs _ W0 hE2'.out).mono ?_); rintro e w3 ⟨rfl, hE3⟩; have hE3' := Aside0.mk hE3; clear hE3)
            | fail)
          go_ret
          obtain ⟨e1, e2⟩ := Prod.mk.inj hR.out
          rw [← e1, ← e2]
          exact ⟨rfl, (hE1'.out.step (by rw [hb3.out]; exact pw_below_drewN (Below.refl _ _) _))⟩
      have h9 := Aside0.mk hop
      clear hop
      have f1 : (op.toList == [43]) = false := by rw [(opF op).p1]; exact decide_eq_false h1.out
      have f2 : (op.toList == [45]) = false := by rw [(opF op).p2]; exact decide_eq_false h2.out
      have f3 : (op.toList == [42]) = false := by rw [(opF op).p3]; exact decide_eq_false h3.out
      have f4 : (op.toList == [60]) = false := by rw [(opF op).p4]; exact decide_eq_false h4.out
      have f5 : (op.toList == [60, 61]) = false := by rw [(opF op).p5]; exact decide_eq_false h5.out
      have f6 : (op.toList == [61, 61]) = false := by rw [(opF op).p6]; exact decide_eq_false h6.out
      have f7 : (op.toList == [33, 61]) = false := by rw [(opF op).p7]; exact decide_eq_false h7.out
      have f8 : (op.toList == [38, 38]) = false := by rw [(opF op).p8]; exact decide_eq_false h8.out
      have f9 : (op.toList == [124, 124]) = false := by rw [(opF op).p9]; exact decide_eq_false h9.out
      by_cases hy0 : ye = 0
      · subst hy0
        have hR : Aside0 ((tru (yn != 0), 0) = (rn, re)) := ⟨by rw [← hres'.out, if_neg (by simp [h8.out, h9.out]), if_neg (by simp)]; unfold arith; rw [if_neg h1.out, if_neg h2.out, if_neg h3.out, if_neg h4.out, if_neg h5.out, if_neg h6.out, if_neg h7.out]⟩
        go_enter Tryd.func34, Tryd.ntmps34
        go_upto_region 1 with fail
        refine wp_world (fun W hW => ?_)
        obtain ⟨b, hb⟩ : ∃ b, w.heap.size = b := ⟨_, rfl⟩
        obtain ⟨A, c, _, _, _, _, _, hgl⟩ := h'.out.cells
        have hbg : Aside0 (b ≠ g) := ⟨by omega⟩
        have hX : W.heap[w.heap.size]? = some (.cells #[.string op, (.iface t1 u1), .nilIface] 50 (0, 0)) := by rw [hW]; exact blk_new _ _
        have hEW : Aside0 (Ev w0 g vs 0 W0 W) := ⟨h'.out.step (by rw [hW]; exact below_alloc (Below.refl _ _) _)⟩
        rw [hb] at hX
        rw [hb]
        have o0 : W.cell? ⟨b, 0, none⟩ = some (.string op) := (blk_cell hX 0).trans rfl
        have o1 : W.cell? ⟨b, 1, none⟩ = some (.iface t1 u1) := (blk_cell hX 1).trans rfl
        have o2 : W.cell? ⟨b, 2, none⟩ = some .nilIface := (blk_cell hX 2).trans rfl
        have hX' := Aside0.mk hX
        clear hW hX hgl
        go_upto_region 2 with (first
          | (go_at_call 20; (with_reducible refine (hl'.out _ hEW.out).mono ?_); rintro e w1 ⟨rfl, hE1⟩; have hE1' := Aside0.mk (hEW.out.trans hE1); obtain ⟨A1, c1, _, _, a1, _, _, hgl1⟩ := hE1.cells; have hX1 := Aside0.mk (hE1.blk hX'.out hbg.out); have o0' : w1.cell? ⟨b, 0, none⟩ = some (.string op) := (blk_cell hX1.out 0).trans rfl; have o2' : w1.cell? ⟨b, 2, none⟩ = some .nilIface := (blk_cell hX1.out 2).trans rfl; clear hE1)
          | fail)
        clear o0 o1 o2
        go_wp2_with (first
          | (go_at_call 20; (with_reducible refine (hr'.out _ hE1'.out).mono ?_); rintro e w2 ⟨rfl, hE2⟩; have hE2' := Aside0.mk (hE1'.out.trans hE2); obtain ⟨A2, c2, _, _, a2, _, _, hgl2⟩ := hE2.cells; have hX2 := Aside0.mk (hE2.blk hX1.out hbg.out); have o0'' : w2.cell? ⟨b, 0, none⟩ = some (.string op) := (blk_cell hX2.out 0).trans rfl; clear hE2 o0' o2' a1)
          | (go_at_call 33; (with_reducible refine (truth_calls _ _).mono ?_); rintro e w3 ⟨rfl, ⟨m3, hm3⟩⟩; have hb3 := Aside0.mk hm3; clear hm3)
          | (go_at_call 50; (with_reducible refine (bound_calls w0 _ g vs _ W0 hE2'.out).mono ?_); rintro e w3 ⟨rfl, hE3⟩; have hE3' := Aside0.mk hE3; clear hE3)
          | fail)
        go_ret
        obtain ⟨e1, e2⟩ := Prod.mk.inj hR.out
        rw [← e1, ← e2]
        exact ⟨rfl, (hE2'.out.step (by rw [hb3.out]; exact pw_below_drewN (Below.refl _ _) _))⟩
      · have dy : (ye != 0) = true := by simpa using hy0
        have hy0' := Aside0.mk hy0
        have hR : Aside0 ((0, ye) = (rn, re)) := ⟨by rw [← hres'.out, if_neg (by simp [h8.out, h9.out]), if_pos hy0'.out]⟩
        clear hy0
        go_enter Tryd.func34, Tryd.ntmps34
        go_upto_region 1 with fail
        refine wp_world (fun W hW => ?_)
        obtain ⟨b, hb⟩ : ∃ b, w.heap.size = b := ⟨_, rfl⟩
        obtain ⟨A, c, _, _, _, _, _, hgl⟩ := h'.out.cells
        have hbg : Aside0 (b ≠ g) := ⟨by omega⟩
        have hX : W.heap[w.heap.size]? = some (.cells #[.string op, (.iface t1 u1), .nilIface] 50 (0, 0)) := by rw [hW]; exact blk_new _ _
        have hEW : Aside0 (Ev w0 g vs 0 W0 W) := ⟨h'.out.step (by rw [hW]; exact below_alloc (Below.refl _ _) _)⟩
        rw [hb] at hX
        rw [hb]
        have o0 : W.cell? ⟨b, 0, none⟩ = some (.string op) := (blk_cell hX 0).trans rfl
        have o1 : W.cell? ⟨b, 1, none⟩ = some (.iface t1 u1) := (blk_cell hX 1).trans rfl
        have o2 : W.cell? ⟨b, 2, none⟩ = some .nilIface := (blk_cell hX 2).trans rfl
        have hX' := Aside0.mk hX
        clear hW hX hgl
        go_upto_region 2 with (first
          | (go_at_call 20; (with_reducible refine (hl'.out _ hEW.out).mono ?_); rintro e w1 ⟨rfl, hE1⟩; have hE1' := Aside0.mk (hEW.out.trans hE1); obtain ⟨A1, c1, _, _, a1, _, _, hgl1⟩ := hE1.cells; have hX1 := Aside0.mk (hE1.blk hX'.out hbg.out); have o0' : w1.cell? ⟨b, 0, none⟩ = some (.string op) := (blk_cell hX1.out 0).trans rfl; have o2' : w1.cell? ⟨b, 2, none⟩ = some .nilIface := (blk_cell hX1.out 2).trans rfl; clear hE1)
          | fail)
        clear o0 o1 o2
        go_wp2_with (first
          | (go_at_call 20; (with_reducible refine (hr'.out _ hE1'.out).mono ?_); rintro e w2 ⟨rfl, hE2⟩; have hE2' := Aside0.mk (hE1'.out.trans hE2); obtain ⟨A2, c2, _, _, a2, _, _, hgl2⟩ := hE2.cells; have hX2 := Aside0.mk (hE2.blk hX1.out hbg.out); have o0'' : w2.cell? ⟨b, 0, none⟩ = some (.string op) := (blk_cell hX2.out 0).trans rfl; clear hE2 o0' o2' a1)
          | (go_at_call 33; (with_reducible refine (truth_calls _ _).mono ?_); rintro e w3 ⟨rfl, ⟨m3, hm3⟩⟩; have hb3 := Aside0.mk hm3; clear hm3)
          | (go_at_call 50; (with_reducible refine (bound_calls w0 _ g vs _ W0 hE2'.out).mono ?_); rintro e w3 ⟨rfl, hE3⟩; have hE3' := Aside0.mk hE3; clear hE3)
          | fail)
        go_ret
        obtain ⟨e1, e2⟩ := Prod.mk.inj hR.out
        rw [← e1, ← e2]
        exact ⟨rfl, hE2'.out⟩
    · have dx : (xe != 0) = true := by simpa using hx0
      have hR : Aside0 ((tru (xn != 0), xe) = (rn, re)) := ⟨by rw [← hres'.out, if_pos (Or.inl hx0)]⟩
      clear hx0
      go_enter Tryd.func34, Tryd.ntmps34
      go_upto_region 1 with fail
      refine wp_world (fun W hW => ?_)
      obtain ⟨b, hb⟩ : ∃ b, w.heap.size = b := ⟨_, rfl⟩
      obtain ⟨A, c, _, _, _, _, _, hgl⟩ := h'.out.cells
      have hbg : Aside0 (b ≠ g) := ⟨by omega⟩
      have hX : W.heap[w.heap.size]? = some (.cells #[.string op, (.iface t1 u1), .nilIface] 50 (0, 0)) := by rw [hW]; exact blk_new _ _
      have hEW : Aside0 (Ev w0 g vs 0 W0 W) := ⟨h'.out.step (by rw [hW]; exact below_alloc (Below.refl _ _) _)⟩
      rw [hb] at hX
      rw [hb]
      have o0 : W.cell? ⟨b, 0, none⟩ = some (.string op) := (blk_cell hX 0).trans rfl
      have o1 : W.cell? ⟨b, 1, none⟩ = some (.iface t1 u1) := (blk_cell hX 1).trans rfl
      have o2 : W.cell? ⟨b, 2, none⟩ = some .nilIface := (blk_cell hX 2).trans rfl
      have hX' := Aside0.mk hX
      clear hW hX hgl
      go_upto_region 2 with (first
        | (go_at_call 20; (with_reducible refine (hl'.out _ hEW.out).mono ?_); rintro e w1 ⟨rfl, hE1⟩; have hE1' := Aside0.mk (hEW.out.trans hE1); obtain ⟨A1, c1, _, _, a1, _, _, hgl1⟩ := hE1.cells; have hX1 := Aside0.mk (hE1.blk hX'.out hbg.out); have o0' : w1.cell? ⟨b, 0, none⟩ = some (.string op) := (blk_cell hX1.out 0).trans rfl; have o2' : w1.cell? ⟨b, 2, none⟩ = some .nilIface := (blk_cell hX1.out 2).trans rfl; clear hE1)
        | fail)
      clear o0 o1 o2
      go_wp2_with (first
        | (go_at_call 20; (with_reducible refine (hr'.out _ hE1'.out).mono ?_); rintro e w2 ⟨rfl, hE2⟩; have hE2' := Aside0.mk (hE1'.out.trans hE2); obtain ⟨A2, c2, _, _, a2, _, _, hgl2⟩ := hE2.cells; have hX2 := Aside0.mk (hE2.blk hX1.out hbg.out); have o0'' : w2.cell? ⟨b, 0, none⟩ = some (.string op) := (blk_cell hX2.out 0).trans rfl; clear hE2 o0' o2' a1)
        | (go_at_call 33; (with_reducible refine (truth_calls _ _).mono ?_); rintro e w3 ⟨rfl, ⟨m3, hm3⟩⟩; have hb3 := Aside0.mk hm3; clear hm3)
        | (go_at_call 50; (with_reducible refine (bound_calls w0 _ g vs _ W0 hE2'.out).mono ?_); rintro e w3 ⟨rfl, hE3⟩; have hE3' := Aside0.mk hE3; clear hE3)
        | fail)
      go_ret
      obtain ⟨e1, e2⟩ := Prod.mk.inj hR.out
      rw [← e1, ← e2]
      exact ⟨rfl, (hE1'.out.step (by rw [hb3.out]; exact pw_below_drewN (Below.refl _ _) _))⟩
  · by_cases hx0 : xe = 0
    · subst hx0
      by_cases hop : op = sPlus
      · have f1 : (op.toList == [43]) = true := by rw [(opF op).p1]; rw [hop]; decide
        have f2 : (op.toList == [45]) = false := by rw [(opF op).p2]; rw [hop]; decide
        have f3 : (op.toList == [42]) = false := by rw [(opF op).p3]; rw [hop]; decide
        have f4 : (op.toList == [60]) = false := by rw [(opF op).p4]; rw [hop]; decide
        have f5 : (op.toList == [60, 61]) = false := by rw [(opF op).p5]; rw [hop]; decide
        have f6 : (op.toList == [61, 61]) = false := by rw [(opF op).p6]; rw [hop]; decide
        have f7 : (op.toList == [33, 61]) = false := by rw [(opF op).p7]; rw [hop]; decide
        have f8 : (op.toList == [38, 38]) = false := by rw [(opF op).p8]; rw [hop]; decide
        have f9 : (op.toList == [124, 124]) = false := by rw [(opF op).p9]; rw [hop]; decide
        have hop' := Aside0.mk hop
        clear hop
        by_cases hy0 : ye = 0
        · subst hy0
          have hR : Aside0 (withB (wrap64 (xn + yn)) = (rn, re)) := ⟨by rw [← hres'.out, if_neg (by rw [hop'.out]; simp [show sPlus ≠ sAnd from by decide, show sPlus ≠ sOr from by decide]), if_neg (by simp)]; unfold arith; rw [hop'.out]; rfl⟩
          go_enter Tryd.func34, Tryd.ntmps34
          go_upto_region 1 with fail
          refine wp_world (fun W hW => ?_)
          obtain ⟨b, hb⟩ : ∃ b, w.heap.size = b := ⟨_, rfl⟩
          obtain ⟨A, c, _, _, _, _, _, hgl⟩ := h'.out.cells
          have hbg : Aside0 (b ≠ g) := ⟨by omega⟩
          have hX : W.heap[w.heap.size]? = some (.cells #[.string op, (.iface t1 u1), (.iface t2 u2)] 50 (0, 0)) := by rw [hW]; exact blk_new _ _
          have hEW : Aside0 (Ev w0 g vs 0 W0 W) := ⟨h'.out.step (by rw [hW]; exact below_alloc (Below.refl _ _) _)⟩
          rw [hb] at hX
          rw [hb]
          have o0 : W.cell? ⟨b, 0, none⟩ = some (.string op) := (blk_cell hX 0).trans rfl
          have o1 : W.cell? ⟨b, 1, none⟩ = some (.iface t1 u1) := (blk_cell hX 1).trans rfl
          have o2 : W.cell? ⟨b, 2, none⟩ = some (.iface t2 u2) := (blk_cell hX 2).trans rfl
          have hX' := Aside0.mk hX
          clear hW hX hgl
          go_upto_region 2 with (first
            | (go_at_call 20; (with_reducible refine (hl'.out _ hEW.out).mono ?_); rintro e w1 ⟨rfl, hE1⟩; have hE1' := Aside0.mk (hEW.out.trans hE1); obtain ⟨A1, c1, _, _, a1, _, _, hgl1⟩ := hE1.cells; have hX1 := Aside0.mk (hE1.blk hX'.out hbg.out); have o0' : w1.cell? ⟨b, 0, none⟩ = some (.string op) := (blk_cell hX1.out 0).trans rfl; have o2' : w1.cell? ⟨b, 2, none⟩ = some (.iface t2 u2) := (blk_cell hX1.out 2).trans rfl; clear hE1)
            | fail)
          clear o0 o1 o2
          go_wp2_with (first
            | (go_at_call 20; (with_reducible refine (hr'.out _ hE1'.out).mono ?_); rintro e w2 ⟨rfl, hE2⟩; have hE2' := Aside0.mk (hE1'.out.trans hE2); obtain ⟨A2, c2, _, _, a2, _, _, hgl2⟩ := hE2.cells; have hX2 := Aside0.mk (hE2.blk hX1.out hbg.out); have o0'' : w2.cell? ⟨b, 0, none⟩ = some (.string op) := (blk_cell hX2.out 0).trans rfl; clear hE2 o0' o2' a1)
            | (go_at_call 33; (with_reducible refine (truth_calls _ _).mono ?_); rintro e w3 ⟨rfl, ⟨m3, hm3⟩⟩; have hb3 := Aside0.mk hm3; clear hm3)
            | (go_at_call 50; (with_reducible refine (bound_calls w0 _ g vs _ W0 hE2'.out).mono ?_); rintro e w3 ⟨rfl, hE3⟩; have hE3' := Aside0.mk hE3; clear hE3)
            | fail)
          go_ret
          obtain ⟨e1, e2⟩ := Prod.mk.inj hR.out
          rw [← e1, ← e2]
          exact ⟨rfl, hE3'.out⟩
        · have dy : (ye != 0) = true := by simpa using hy0
          have hy0' := Aside0.mk hy0
          have hR : Aside0 ((0, ye) = (rn, re)) := ⟨by rw [← hres'.out, if_neg (by rw [hop'.out]; simp [show sPlus ≠ sAnd from by decide, show sPlus ≠ sOr from by decide]), if_pos hy0'.out]⟩
          clear hy0
          go_enter Tryd.func34, Tryd.ntmps34
          go_upto_region 1 with fail
          refine wp_world (fun W hW => ?_)
          obtain ⟨b, hb⟩ : ∃ b, w.heap.size = b := ⟨_, rfl⟩
          obtain ⟨A, c, _, _, _, _, _, hgl⟩ := h'.out.cells
          have hbg : Aside0 (b ≠ g) := ⟨by omega⟩
          have hX : W.heap[w.heap.size]? = some (.cells #[.string op, (.iface t1 u1), (.iface t2 u2)] 50 (0, 0)) := by rw [hW]; exact blk_new _ _
          have hEW : Aside0 (Ev w0 g vs 0 W0 W) := ⟨h'.out.step (by rw [hW]; exact below_alloc (Below.refl _ _) _)⟩
          rw [hb] at hX
          rw [hb]
          have o0 : W.cell? ⟨b, 0, none⟩ = some (.string op) := (blk_cell hX 0).trans rfl
          have o1 : W.cell? ⟨b, 1, none⟩ = some (.iface t1 u1) := (blk_cell hX 1).trans rfl
          have o2 : W.cell? ⟨b, 2, none⟩ = some (.iface t2 u2) := (blk_cell hX 2).trans rfl
          have hX' := Aside0.mk hX
          clear hW hX hgl
          go_upto_region 2 with (first
            | (go_at_call 20; (with_reducible refine (hl'.out _ hEW.out).mono ?_); rintro e w1 ⟨rfl, hE1⟩; have hE1' := Aside0.mk (hEW.out.trans hE1); obtain ⟨A1, c1, _, _, a1, _, _, hgl1⟩ := hE1.cells; have hX1 := Aside0.mk (hE1.blk hX'.out hbg.out); have o0' : w1.cell? ⟨b, 0, none⟩ = some (.string op) := (blk_cell hX1.out 0).trans rfl; have o2' : w1.cell? ⟨b, 2, none⟩ = some (.iface t2 u2) := (blk_cell hX1.out 2).trans rfl; clear hE1)
            | fail)
          clear o0 o1 o2
          go_wp2_with (first
            | (go_at_call 20; (with_reducible refine (hr'.out _ hE1'.out).mono ?_); rintro e w2 ⟨rfl, hE2⟩; have hE2' := Aside0.mk (hE1'.out.trans hE2); obtain ⟨A2, c2, _, _, a2, _, _, hgl2⟩ := hE2.cells; have hX2 := Aside0.mk (hE2.blk hX1.out hbg.out); have o0'' : w2.cell? ⟨b, 0, none⟩ = some (.string op) := (blk_cell hX2.out 0).trans rfl; clear hE2 o0' o2' a1)
            | (go_at_call 33; (with_reducible refine (truth_calls _ _).mono ?_); rintro e w3 ⟨rfl, ⟨m3, hm3⟩⟩; have hb3 := Aside0.mk hm3; clear hm3)
            | (go_at_call 50; (with_reducible refine (bound_calls w0 _ g vs _ W0 hE2'.out).mono ?_); rintro e w3 ⟨rfl, hE3⟩; have hE3' := Aside0.mk hE3; clear hE3)
            | fail)
          go_ret
          obtain ⟨e1, e2⟩ := Prod.mk.inj hR.out
          rw [← e1, ← e2]
          exact ⟨rfl, hE2'.out⟩
      have h1 := Aside0.mk hop
      clear hop
      by_cases hop : op = sMinus
      · have f1 : (op.toList == [43]) = false := by rw [(opF op).p1]; rw [hop]; decide
        have f2 : (op.toList == [45]) = true := by rw [(opF op).p2]; rw [hop]; decide
        have f3 : (op.toList == [42]) = false := by rw [(opF op).p3]; rw [hop]; decide
        have f4 : (op.toList == [60]) = false := by rw [(opF op).p4]; rw [hop]; decide
        have f5 : (op.toList == [60, 61]) = false := by rw [(opF op).p5]; rw [hop]; decide
        have f6 : (op.toList == [61, 61]) = false := by rw [(opF op).p6]; rw [hop]; decide
        have f7 : (op.toList == [33, 61]) = false := by rw [(opF op).p7]; rw [hop]; decide
        have f8 : (op.toList == [38, 38]) = false := by rw [(opF op).p8]; rw [hop]; decide
        have f9 : (op.toList == [124, 124]) = false := by rw [(opF op).p9]; rw [hop]; decide
        have hop' := Aside0.mk hop
        clear hop
        by_cases hy0 : ye = 0
        · subst hy0
          have hR : Aside0 (withB (wrap64 (xn - yn)) = (rn, re)) := ⟨by rw [← hres'.out, if_neg (by rw [hop'.out]; simp [show sMinus ≠ sAnd from by decide, show sMinus ≠ sOr from by decide]), if_neg (by simp)]; unfold arith; rw [hop'.out]; rfl⟩
          go_enter Tryd.func34, Tryd.ntmps34
          go_upto_region 1 with fail
          refine wp_world (fun W hW => ?_)
          obtain ⟨b, hb⟩ : ∃ b, w.heap.size = b := ⟨_, rfl⟩
          obtain ⟨A, c, _, _, _, _, _, hgl⟩ := h'.out.cells
          have hbg : Aside0 (b ≠ g) := ⟨by omega⟩
          have hX : W.heap[w.heap.size]? = some (.cells #[.string op, (.iface t1 u1), (.iface t2 u2)] 50 (0, 0)) := by rw [hW]; exact blk_new _ _
          have hEW : Aside0 (Ev w0 g vs 0 W0 W) := ⟨h'.out.step (by rw [hW]; exact below_alloc (Below.refl _ _) _)⟩
          rw [hb] at hX
          rw [hb]
          have o0 : W.cell? ⟨b, 0, none⟩ = some (.string op) := (blk_cell hX 0).trans rfl
          have o1 : W.cell? ⟨b, 1, none⟩ = some (.iface t1 u1) := (blk_cell hX 1).trans rfl
          have o2 : W.cell? ⟨b, 2, none⟩ = some (.iface t2 u2) := (blk_cell hX 2).trans rfl
          have hX' := Aside0.mk hX
          clear hW hX hgl
          go_upto_region 2 with (first
            | (go_at_call 20; (with_reducible refine (hl'.out _ hEW.out).mono ?_); rintro e w1 ⟨rfl, hE1⟩; have hE1' := Aside0.mk (hEW.out.trans hE1); obtain ⟨A1, c1, _, _, a1, _, _, hgl1⟩ := hE1.cells; have hX1 := Aside0.mk (hE1.blk hX'.out hbg.out); have o0' : w1.cell? ⟨b, 0, none⟩ = some (.string op) := (blk_cell hX1.out 0).trans rfl; have o2' : w1.cell? ⟨b, 2, none⟩ = some (.iface t2 u2) := (blk_cell hX1.out 2).trans rfl; clear hE1)
            | fail)
          clear o0 o1 o2
          go_wp2_with (first
            | (go_at_call 20; (with_reducible refine (hr'.out _ hE1'.out).mono ?_); rintro e w2 ⟨rfl, hE2⟩; have hE2' := Aside0.mk (hE1'.out.trans hE2); obtain ⟨A2, c2, _, _, a2, _, _, hgl2⟩ := hE2.cells; have hX2 := Aside0.mk (hE2.blk hX1.out hbg.out); have o0'' : w2.cell? ⟨b, 0, none⟩ = some (.string op) := (blk_cell hX2.out 0).trans rfl; clear hE2 o0' o2' a1)
            | (go_at_call 33; (with_reducible refine (truth_calls _ _).mono ?_); rintro e w3 ⟨rfl, ⟨m3, hm3⟩⟩; have hb3 := Aside0.mk hm3; clear hm3)
            | (go_at_call 50; (with_reducible refine (bound_calls w0 _ g vs _ W0 hE2'.out).mono ?_); rintro e w3 ⟨rfl, hE3⟩; have hE3' := Aside0.mk hE3; clear hE3)
            | fail)
          go_ret
          obtain ⟨e1, e2⟩ := Prod.mk.inj hR.out
          rw [← e1, ← e2]
          exact ⟨rfl, hE3'.out⟩
        · have dy : (ye != 0) = true := by simpa using hy0
          have hy0' := Aside0.mk hy0
          have hR : Aside0 ((0, ye) = (rn, re)) := ⟨by rw [← hres'.out, if_neg (by rw [hop'.out]; simp [show sMinus ≠ sAnd from by decide, show sMinus ≠ sOr from by decide]), if_pos hy0'.out]⟩
          clear hy0
          go_enter Tryd.func34, Tryd.ntmps34
          go_upto_region 1 with fail
          refine wp_world (fun W hW => ?_)
          obtain ⟨b, hb⟩ : ∃ b, w.heap.size = b := ⟨_, rfl⟩
          obtain ⟨A, c, _, _, _, _, _, hgl⟩ := h'.out.cells
          have hbg : Aside0 (b ≠ g) := ⟨by omega⟩
          have hX : W.heap[w.heap.size]? = some (.cells #[.string op, (.iface t1 u1), (.iface t2 u2)] 50 (0, 0)) := by rw [hW]; exact blk_new _ _
          have hEW : Aside0 (Ev w0 g vs 0 W0 W) := ⟨h'.out.step (by rw [hW]; exact below_alloc (Below.refl _ _) _)⟩
          rw [hb] at hX
          rw [hb]
          have o0 : W.cell? ⟨b, 0, none⟩ = some (.string op) := (blk_cell hX 0).trans rfl
          have o1 : W.cell? ⟨b, 1, none⟩ = some (.iface t1 u1) := (blk_cell hX 1).trans rfl
          have o2 : W.cell? ⟨b, 2, none⟩ = some (.iface t2 u2) := (blk_cell hX 2).trans rfl
          have hX' := Aside0.mk hX
          clear hW hX hgl
          go_upto_region 2 with (first
            | (go_at_call 20; (with_reducible refine (hl'.out _ hEW.out).mono ?_); rintro e w1 ⟨rfl, hE1⟩; have hE1' := Aside0.mk (hEW.out.trans hE1); obtain ⟨A1, c1, _, _, a1, _, _, hgl1⟩ := hE1.cells; have hX1 := Aside0.mk (hE1.blk hX'.out hbg.out); have o0' : w1.cell? ⟨b, 0, none⟩ = some (.string op) := (blk_cell hX1.out 0).trans rfl; have o2' : w1.cell? ⟨b, 2, none⟩ = some (.iface t2 u2) := (blk_cell hX1.out 2).trans rfl; clear hE1)
            | fail)
          clear o0 o1 o2
          go_wp2_with (first
            | (go_at_call 20; (with_reducible refine (hr'.out _ hE1'.out).mono ?_); rintro e w2 ⟨rfl, hE2⟩; have hE2' := Aside0.mk (hE1'.out.trans hE2); obtain ⟨A2, c2, _, _, a2, _, _, hgl2⟩ := hE2.cells; have hX2 := Aside0.mk (hE2.blk hX1.out hbg.out); have o0'' : w2.cell? ⟨b, 0, none⟩ = some (.string op) := (blk_cell hX2.out 0).trans rfl; clear hE2 o0' o2' a1)
            | (go_at_call 33; (with_reducible refine (truth_calls _ _).mono ?_); rintro e w3 ⟨rfl, ⟨m3, hm3⟩⟩; have hb3 := Aside0.mk hm3; clear hm3)
            | (go_at_call 50; (with_reducible refine (bound_calls w0 _ g vs _ W0 hE2'.out).mono ?_); rintro e w3 ⟨rfl, hE3⟩; have hE3' := Aside0.mk hE3; clear hE3)
            | fail)
          go_ret
          obtain ⟨e1, e2⟩ := Prod.mk.inj hR.out
          rw [← e1, ← e2]
          exact ⟨rfl, hE2'.out⟩
      have h2 := Aside0.mk hop
      clear hop
      by_cases hop : op = sMul
      · have f1 : (op.toList == [43]) = false := by rw [(opF op).p1]; rw [hop]; decide
        have f2 : (op.toList == [45]) = false := by rw [(opF op).p2]; rw [hop]; decide
        have f3 : (op.toList == [42]) = true := by rw [(opF op).p3]; rw [hop]; decide
        have f4 : (op.toList == [60]) = false := by rw [(opF op).p4]; rw [hop]; decide
        have f5 : (op.toList == [60, 61]) = false := by rw [(opF op).p5]; rw [hop]; decide
        have f6 : (op.toList == [61, 61]) = false := by rw [(opF op).p6]; rw [hop]; decide
        have f7 : (op.toList == [33, 61]) = false := by rw [(opF op).p7]; rw [hop]; decide
        have f8 : (op.toList == [38, 38]) = false := by rw [(opF op).p8]; rw [hop]; decide
        have f9 : (op.toList == [124, 124]) = false := by rw [(opF op).p9]; rw [hop]; decide
        have hop' := Aside0.mk hop
        clear hop
        by_cases hy0 : ye = 0
        · subst hy0
          have hR : Aside0 (withB (wrap64 (xn * yn)) = (rn, re)) := ⟨by rw [← hres'.out, if_neg (by rw [hop'.out]; simp [show sMul ≠ sAnd from by decide, show sMul ≠ sOr from by decide]), if_neg (by simp)]; unfold arith; rw [hop'.out]; rfl⟩
          go_enter Tryd.func34, Tryd.ntmps34
          go_upto_region 1 with fail
          refine wp_world (fun W hW => ?_)
          obtain ⟨b, hb⟩ : ∃ b, w.heap.size = b := ⟨_, rfl⟩
          obtain ⟨A, c, _, _, _, _, _, hgl⟩ := h'.out.cells
          have hbg : Aside0 (b ≠ g) := ⟨by omega⟩
          have hX : W.heap[w.heap.size]? = some (.cells #[.string op, (.iface t1 u1), (.iface t2 u2)] 50 (0, 0)) := by rw [hW]; exact blk_new _ _
          have hEW : Aside0 (Ev w0 g vs 0 W0 W) := ⟨h'.out.step (by rw [hW]; exact below_alloc (Below.refl _ _) _)⟩
          rw [hb] at hX
          rw [hb]
          have o0 : W.cell? ⟨b, 0, none⟩ = some (.string op) := (blk_cell hX 0).trans rfl
          have o1 : W.cell? ⟨b, 1, none⟩ = some (.iface t1 u1) := (blk_cell hX 1).trans rfl
          have o2 : W.cell? ⟨b, 2, none⟩ = some (.iface t2 u2) := (blk_cell hX 2).trans rfl
          have hX' := Aside0.mk hX
          clear hW hX hgl
          go_upto_region 2 with (first
            | (go_at_call 20; (with_reducible refine (hl'.out _ hEW.out).mono ?_); rintro e w1 ⟨rfl, hE1⟩; have hE1' := Aside0.mk (hEW.out.trans hE1); obtain ⟨A1, c1, _, _, a1, _, _, hgl1⟩ := hE1.cells; have hX1 := Aside0.mk (hE1.blk hX'.out hbg.out); have o0' : w1.cell? ⟨b, 0, none⟩ = some (.string op) := (blk_cell hX1.out 0).trans rfl; have o2' : w1.cell? ⟨b, 2, none⟩ = some (.iface t2 u2) := (blk_cell hX1.out 2).trans rfl; clear hE1)
            | fail)
          clear o0 o1 o2
          go_wp2_with (first
            | (go_at_call 20; (with_reducible refine (hr'.out _ hE1'.out).mono ?_); rintro e w2 ⟨rfl, hE2⟩; have hE2' := Aside0.mk (hE1'.out.trans hE2); obtain ⟨A2, c2, _, _, a2, _, _, hgl2⟩ := hE2.cells; have hX2 := Aside0.mk (hE2.blk hX1.out hbg.out); have o0'' : w2.cell? ⟨b, 0, none⟩ = some (.string op) := (blk_cell hX2.out 0).trans rfl; clear hE2 o0' o2' a1)
            | (go_at_call 33; (with_reducible refine (truth_calls _ _).mono ?_); rintro e w3 ⟨rfl, ⟨m3, hm3⟩⟩; have hb3 := Aside0.mk hm3; clear hm3)
            | (go_at_call 50; (with_reducible refine (bound_calls w0 _ g vs _ W0 hE2'.out).mono ?_); rintro e w3 ⟨rfl, hE3⟩; have hE3' := Aside0.mk hE3; clear hE3)
            | fail)
          go_ret
          obtain ⟨e1, e2⟩ := Prod.mk.inj hR.out
          rw [← e1, ← e2]
          exact ⟨rfl, hE3'.out⟩
        · have dy : (ye != 0) = true := by simpa using hy0
          have hy0' := Aside0.mk hy0
          have hR : Aside0 ((0, ye) = (rn, re)) := ⟨by rw [← hres'.out, if_neg (by rw [hop'.out]; simp [show sMul ≠ sAnd from by decide, show sMul ≠ sOr from by decide]), if_pos hy0'.out]⟩
          clear hy0
          go_enter Tryd.func34, Tryd.ntmps34
          go_upto_region 1 with fail
          refine wp_world (fun W hW => ?_)
          obtain ⟨b, hb⟩ : ∃ b, w.heap.size = b := ⟨_, rfl⟩
          obtain ⟨A, c, _, _, _, _, _, hgl⟩ := h'.out.cells
          have hbg : Aside0 (b ≠ g) := ⟨by omega⟩
          have hX : W.heap[w.heap.size]? = some (.cells #[.string op, (.iface t1 u1), (.iface t2 u2)] 50 (0, 0)) := by rw [hW]; exact blk_new _ _
          have hEW : Aside0 (Ev w0 g vs 0 W0 W) := ⟨h'.out.step (by rw [hW]; exact below_alloc (Below.refl _ _) _)⟩
          rw [hb] at hX
          rw [hb]
          have o0 : W.cell? ⟨b, 0, none⟩ = some (.string op) := (blk_cell hX 0).trans rfl
          have o1 : W.cell? ⟨b, 1, none⟩ = some (.iface t1 u1) := (blk_cell hX 1).trans rfl
          have o2 : W.cell? ⟨b, 2, none⟩ = some (.iface t2 u2) := (blk_cell hX 2).trans rfl
          have hX' := Aside0.mk hX
          clear hW hX hgl
          go_upto_region 2 with (first
            | (go_at_call 20; (with_reducible refine (hl'.out _ hEW.out).mono ?_); rintro e w1 ⟨rfl, hE1⟩; have hE1' := Aside0.mk (hEW.out.trans hE1); obtain ⟨A1, c1, _, _, a1, _, _, hgl1⟩ := hE1.cells; have hX1 := Aside0.mk (hE1.blk hX'.out hbg.out); have o0' : w1.cell? ⟨b, 0, none⟩ = some (.string op) := (blk_cell hX1.out 0).trans rfl; have o2' : w1.cell? ⟨b, 2, none⟩ = some (.iface t2 u2) := (blk_cell hX1.out 2).trans rfl; clear hE1)
            | fail)
          clear o0 o1 o2
          go_wp2_with (first
            | (go_at_call 20; (with_reducible refine (hr'.out _ hE1'.out).mono ?_); rintro e w2 ⟨rfl, hE2⟩; have hE2' := Aside0.mk (hE1'.out.trans hE2); obtain ⟨A2, c2, _, _, a2, _, _, hgl2⟩ := hE2.cells; have hX2 := Aside0.mk (hE2.blk hX1.out hbg.out); have o0'' : w2.cell? ⟨b, 0, none⟩ = some (.string op) := (blk_cell hX2.out 0).trans rfl; clear hE2 o0' o2' a1)
            | (go_at_call 33; (with_reducible refine (truth_calls _ _).mono ?_); rintro e w3 ⟨rfl, ⟨m3, hm3⟩⟩; have hb3 := Aside0.mk hm3; clear hm3)
            | (go_at_call 50; (with_reducible refine (bound_calls w0 _ g vs _ W0 hE2'.out).mono ?_); rintro e w3 ⟨rfl, hE3⟩; have hE3' := Aside0.mk hE3; clear hE3)
            | fail)
          go_ret
          obtain ⟨e1, e2⟩ := Prod.mk.inj hR.out
          rw [← e1, ← e2]
          exact ⟨rfl, hE2'.out⟩
      have h3 := Aside0.mk hop
      clear hop
      by_cases hop : op = sLess
      · have f1 : (op.toList == [43]) = false := by rw [(opF op).p1]; rw [hop]; decide
        have f2 : (op.toList == [45]) = false := by rw [(opF op).p2]; rw [hop]; decide
        have f3 : (op.toList == [42]) = false := by rw [(opF op).p3]; rw [hop]; decide
        have f4 : (op.toList == [60]) = true := by rw [(opF op).p4]; rw [hop]; decide
        have f5 : (op.toList == [60, 61]) = false := by rw [(opF op).p5]; rw [hop]; decide
        have f6 : (op.toList == [61, 61]) = false := by rw [(opF op).p6]; rw [hop]; decide
        have f7 : (op.toList == [33, 61]) = false := by rw [(opF op).p7]; rw [hop]; decide
        have f8 : (op.toList == [38, 38]) = false := by rw [(opF op).p8]; rw [hop]; decide
        have f9 : (op.toList == [124, 124]) = false := by rw [(opF op).p9]; rw [hop]; decide
        have hop' := Aside0.mk hop
        clear hop
        by_cases hy0 : ye = 0
        · subst hy0
          have hR : Aside0 ((tru (decide (xn < yn)), 0) = (rn, re)) := ⟨by rw [← hres'.out, if_neg (by rw [hop'.out]; simp [show sLess ≠ sAnd from by decide, show sLess ≠ sOr from by decide]), if_neg (by simp)]; unfold arith; rw [hop'.out]; rfl⟩
          go_enter Tryd.func34, Tryd.ntmps34
          go_upto_region 1 with fail
          refine wp_world (fun W hW => ?_)
          obtain ⟨b, hb⟩ : ∃ b, w.heap.size = b := ⟨_, rfl⟩
          obtain ⟨A, c, _, _, _, _, _, hgl⟩ := h'.out.cells
          have hbg : Aside0 (b ≠ g) := ⟨by omega⟩
          have hX : W.heap[w.heap.size]? = some (.cells #[.string op, (.iface t1 u1), (.iface t2 u2)] 50 (0, 0)) := by rw [hW]; exact blk_new _ _
          have hEW : Aside0 (Ev w0 g vs 0 W0 W) := ⟨h'.out.step (by rw [hW]; exact below_alloc (Below.refl _ _) _)⟩
          rw [hb] at hX
          rw [hb]
          have o0 : W.cell? ⟨b, 0, none⟩ = some (.string op) := (blk_cell hX 0).trans rfl
          have o1 : W.cell? ⟨b, 1, none⟩ = some (.iface t1 u1) := (blk_cell hX 1).trans rfl
          have o2 : W.cell? ⟨b, 2, none⟩ = some (.iface t2 u2) := (blk_cell hX 2).trans rfl
          have hX' := Aside0.mk hX
          clear hW hX hgl
          go_upto_region 2 with (first
            | (go_at_call 20; (with_reducible refine (hl'.out _ hEW.out).mono ?_); rintro e w1 ⟨rfl, hE1⟩; have hE1' := Aside0.mk (hEW.out.trans hE1); obtain ⟨A1, c1, _, _, a1, _, _, hgl1⟩ := hE1.cells; have hX1 := Aside0.mk (hE1.blk hX'.out hbg.out); have o0' : w1.cell? ⟨b, 0, none⟩ = some (.string op) := (blk_cell hX1.out 0).trans rfl; have o2' : w1.cell? ⟨b, 2, none⟩ = some (.iface t2 u2) := (blk_cell hX1.out 2).trans rfl; clear hE1)
            | fail)
          clear o0 o1 o2
          go_wp2_with (first
            | (go_at_call 20; (with_reducible refine (hr'.out _ hE1'.out).mono ?_); rintro e w2 ⟨rfl, hE2⟩; have hE2' := Aside0.mk (hE1'.out.trans hE2); obtain ⟨A2, c2, _, _, a2, _, _, hgl2⟩ := hE2.cells; have hX2 := Aside0.mk (hE2.blk hX1.out hbg.out); have o0'' : w2.cell? ⟨b, 0, none⟩ = some (.string op) := (blk_cell hX2.out 0).trans rfl; clear hE2 o0' o2' a1)
            | (go_at_call 33; (with_reducible refine (truth_calls _ _).mono ?_); rintro e w3 ⟨rfl, ⟨m3, hm3⟩⟩; have hb3 := Aside0.mk hm3; clear hm3)
            | (go_at_call 50; (with_reducible refine (bound_calls w0 _ g vs _ W0 hE2'.out).mono ?_); rintro e w3 ⟨rfl, hE3⟩; have hE3' := Aside0.mk hE3; clear hE3)
            | fail)
          go_ret
          obtain ⟨e1, e2⟩ := Prod.mk.inj hR.out
          rw [← e1, ← e2]
          exact ⟨rfl, (hE2'.out.step (by rw [hb3.out]; exact pw_below_drewN (Below.refl _ _) _))⟩
        · have dy : (ye != 0) = true := by simpa using hy0
          have hy0' := Aside0.mk hy0
          have hR : Aside0 ((0, ye) = (rn, re)) := ⟨by rw [← hres'.out, if_neg (by rw [hop'.out]; simp [show sLess ≠ sAnd from by decide, show sLess ≠ sOr from by decide]), if_pos hy0'.out]⟩
          clear hy0
          go_enter Tryd.func34, Tryd.ntmps34
          go_upto_region 1 with fail
          refine wp_world (fun W hW => ?_)
          obtain ⟨b, hb⟩ : ∃ b, w.heap.size = b := ⟨_, rfl⟩
          obtain ⟨A, c, _, _, _, _, _, hgl⟩ := h'.out.cells
          have hbg : Aside0 (b ≠ g) := ⟨by omega⟩
          have hX : W.heap[w.heap.size]? = some (.cells #[.string op, (.iface t1 u1), (.iface t2 u2)] 50 (0, 0)) := by rw [hW]; exact blk_new _ _
          have hEW : Aside0 (Ev w0 g vs 0 W0 W) := ⟨h'.out.step (by rw [hW]; exact below_alloc (Below.refl _ _) _)⟩
          rw [hb] at hX
          rw [hb]
          have o0 : W.cell? ⟨b, 0, none⟩ = some (.string op) := (blk_cell hX 0).trans rfl
          have o1 : W.cell? ⟨b, 1, none⟩ = some (.iface t1 u1) := (blk_cell hX 1).trans rfl
          have o2 : W.cell? ⟨b, 2, none⟩ = some (.iface t2 u2) := (blk_cell hX 2).trans rfl
          have hX' := Aside0.mk hX
          clear hW hX hgl
          go_upto_region 2 with (first
            | (go_at_call 20; (with_reducible refine (hl'.out _ hEW.out).mono ?_); rintro e w1 ⟨rfl, hE1⟩; have hE1' := Aside0.mk (hEW.out.trans hE1); obtain ⟨A1, c1, _, _, a1, _, _, hgl1⟩ := hE1.cells; have hX1 := Aside0.mk (hE1.blk hX'.out hbg.out); have o0' : w1.cell? ⟨b, 0, none⟩ = some (.string op) := (blk_cell hX1.out 0).trans rfl; have o2' : w1.cell? ⟨b, 2, none⟩ = some (.iface t2 u2) := (blk_cell hX1.out 2).trans rfl; clear hE1)
            | fail)
          clear o0 o1 o2
          go_wp2_with (first
            | (go_at_call 20; (with_reducible refine (hr'.out _ hE1'.out).mono ?_); rintro e w2 ⟨rfl, hE2⟩; have hE2' := Aside0.mk (hE1'.out.trans hE2); obtain ⟨A2, c2, _, _, a2, _, _, hgl2⟩ := hE2.cells; have hX2 := Aside0.mk (hE2.blk hX1.out hbg.out); have o0'' : w2.cell? ⟨b, 0, none⟩ = some (.string op) := (blk_cell hX2.out 0).trans rfl; clear hE2 o0' o2' a1)
            | (go_at_call 33; (with_reducible refine (truth_calls _ _).mono ?_); rintro e w3 ⟨rfl, ⟨m3, hm3⟩⟩; have hb3 := Aside0.mk hm3; clear hm3)
            | (go_at_call 50; (with_reducible refine (bound_calls w0 _ g vs _ W0 hE2'.out).mono ?_); rintro e w3 ⟨rfl, hE3⟩; have hE3' := Aside0.mk hE3; clear hE3)
            | fail)
          go_ret
          obtain ⟨e1, e2⟩ := Prod.mk.inj hR.out
          rw [← e1, ← e2]
          exact ⟨rfl, hE2'.out⟩
      have h4 := Aside0.mk hop
      clear hop
      by_cases hop : op = sLeq
      · have f1 : (op.toList == [43]) = false := by rw [(opF op).p1]; rw [hop]; decide
        have f2 : (op.toList == [45]) = false := by rw [(opF op).p2]; rw [hop]; decide
        have f3 : (op.toList == [42]) = false := by rw [(opF op).p3]; rw [hop]; decide
        have f4 : (op.toList == [60]) = false := by rw [(opF op).p4]; rw [hop]; decide
        have f5 : (op.toList == [60, 61]) = true := by rw [(opF op).p5]; rw [hop]; decide
        have f6 : (op.toList == [61, 61]) = false := by rw [(opF op).p6]; rw [hop]; decide
        have f7 : (op.toList == [33, 61]) = false := by rw [(opF op).p7]; rw [hop]; decide
        have f8 : (op.toList == [38, 38]) = false := by rw [(opF op).p8]; rw [hop]; decide
        have f9 : (op.toList == [124, 124]) = false := by rw [(opF op).p9]; rw [hop]; decide
        have hop' := Aside0.mk hop
        clear hop
        by_cases hy0 : ye = 0
        · subst hy0
          have hR : Aside0 ((tru (decide (xn ≤ yn)), 0) = (rn, re)) := ⟨by rw [← hres'.out, if_neg (by rw [hop'.out]; simp [show sLeq ≠ sAnd from by decide, show sLeq ≠ sOr from by decide]), if_neg (by simp)]; unfold arith; rw [hop'.out]; rfl⟩
          go_enter Tryd.func34, Tryd.ntmps34
          go_upto_region 1 with fail
          refine wp_world (fun W hW => ?_)
          obtain ⟨b, hb⟩ : ∃ b, w.heap.size = b := ⟨_, rfl⟩
          obtain ⟨A, c, _, _, _, _, _, hgl⟩ := h'.out.cells
          have hbg : Aside0 (b ≠ g) := ⟨by omega⟩
          have hX : W.heap[w.heap.size]? = some (.cells #[.string op, (.iface t1 u1), (.iface t2 u2)] 50 (0, 0)) := by rw [hW]; exact blk_new _ _
          have hEW : Aside0 (Ev w0 g vs 0 W0 W) := ⟨h'.out.step (by rw [hW]; exact below_alloc (Below.refl _ _) _)⟩
          rw [hb] at hX
          rw [hb]
          have o0 : W.cell? ⟨b, 0, none⟩ = some (.string op) := (blk_cell hX 0).trans rfl
          have o1 : W.cell? ⟨b, 1, none⟩ = some (.iface t1 u1) := (blk_cell hX 1).trans rfl
          have o2 : W.cell? ⟨b, 2, none⟩ = some (.iface t2 u2) := (blk_cell hX 2).trans rfl
          have hX' := Aside0.mk hX
          clear hW hX hgl
          go_upto_region 2 with (first
            | (go_at_call 20; (with_reducible refine (hl'.out _ hEW.out).mono ?_); rintro e w1 ⟨rfl, hE1⟩; have hE1' := Aside0.mk (hEW.out.trans hE1); obtain ⟨A1, c1, _, _, a1, _, _, hgl1⟩ := hE1.cells; have hX1 := Aside0.mk (hE1.blk hX'.out hbg.out); have o0' : w1.cell? ⟨b, 0, none⟩ = some (.string op) := (blk_cell hX1.out 0).trans rfl; have o2' : w1.cell? ⟨b, 2, none⟩ = some (.iface t2 u2) := (blk_cell hX1.out 2).trans rfl; clear hE1)
            | fail)
          clear o0 o1 o2
          go_wp2_with (first
            | (go_at_call 20; (with_reducible refine (hr'.out _ hE1'.out).mono ?_); rintro e w2 ⟨rfl, hE2⟩; have hE2' := Aside0.mk (hE1'.out.trans hE2); obtain ⟨A2, c2, _, _, a2, _, _, hgl2⟩ := hE2.cells; have hX2 := Aside0.mk (hE2.blk hX1.out hbg.out); have o0'' : w2.cell? ⟨b, 0, none⟩ = some (.string op) := (blk_cell hX2.out 0).trans rfl; clear hE2 o0' o2' a1)
            | (go_at_call 33; (with_reducible refine (truth_calls _ _).mono ?_); rintro e w3 ⟨rfl, ⟨m3, hm3⟩⟩; have hb3 := Aside0.mk hm3; clear hm3)
            | (go_at_call 50; (with_reducible refine (bound_calls w0 _ g vs _ W0 hE2'.out).mono ?_); rintro e w3 ⟨rfl, hE3⟩; have hE3' := Aside0.mk hE3; clear hE3)
            | fail)
          go_ret
          obtain ⟨e1, e2⟩ := Prod.mk.inj hR.out
          rw [← e1, ← e2]
          exact ⟨rfl, (hE2'.out.step (by rw [hb3.out]; exact pw_below_drewN (Below.refl _ _) _))⟩
        · have dy : (ye != 0) = true := by simpa using hy0
          have hy0' := Aside0.mk hy0
          have hR : Aside0 ((0, ye) = (rn, re)) := ⟨by rw [← hres'.out, if_neg (by rw [hop'.out]; simp [show sLeq ≠ sAnd from by decide, show sLeq ≠ sOr from by decide]), if_pos hy0'.out]⟩
          clear hy0
          go_enter Tryd.func34, Tryd.ntmps34
          go_upto_region 1 with fail
          refine wp_world (fun W hW => ?_)
          obtain ⟨b, hb⟩ : ∃ b, w.heap.size = b := ⟨_, rfl⟩
          obtain ⟨A, c, _, _, _, _, _, hgl⟩ := h'.out.cells
          have hbg : Aside0 (b ≠ g) := ⟨by omega⟩
          have hX : W.heap[w.heap.size]? = some (.cells #[.string op, (.iface t1 u1), (.iface t2 u2)] 50 (0, 0)) := by rw [hW]; exact blk_new _ _
          have hEW : Aside0 (Ev w0 g vs 0 W0 W) := ⟨h'.out.step (by rw [hW]; exact below_alloc (Below.refl _ _) _)⟩
          rw [hb] at hX
          rw [hb]
          have o0 : W.cell? ⟨b, 0, none⟩ = some (.string op) := (blk_cell hX 0).trans rfl
          have o1 : W.cell? ⟨b, 1, none⟩ = some (.iface t1 u1) := (blk_cell hX 1).trans rfl
          have o2 : W.cell? ⟨b, 2, none⟩ = some (.iface t2 u2) := (blk_cell hX 2).trans rfl
          have hX' := Aside0.mk hX
          clear hW hX hgl
          go_upto_region 2 with (first
            | (go_at_call 20; (with_reducible refine (hl'.out _ hEW.out).mono ?_); rintro e w1 ⟨rfl, hE1⟩; have hE1' := Aside0.mk (hEW.out.trans hE1); obtain ⟨A1, c1, _, _, a1, _, _, hgl1⟩ := hE1.cells; have hX1 := Aside0.mk (hE1.blk hX'.out hbg.out); have o0' : w1.cell? ⟨b, 0, none⟩ = some (.string op) := (blk_cell hX1.out 0).trans rfl; have o2' : w1.cell? ⟨b, 2, none⟩ = some (.iface t2 u2) := (blk_cell hX1.out 2).trans rfl; clear hE1)
            | fail)
          clear o0 o1 o2
          go_wp2_with (first
            | (go_at_call 20; (with_reducible refine (hr'.out _ hE1'.out).mono ?_); rintro e w2 ⟨rfl, hE2⟩; have hE2' := Aside0.mk (hE1'.out.trans hE2); obtain ⟨A2, c2, _, _, a2, _, _, hgl2⟩ := hE2.cells; have hX2 := Aside0.mk (hE2.blk hX1.out hbg.out); have o0'' : w2.cell? ⟨b, 0, none⟩ = some (.string op) := (blk_cell hX2.out 0).trans rfl; clear hE2 o0' o2' a1)
            | (go_at_call 33; (with_reducible refine (truth_calls _ _).mono ?_); rintro e w3 ⟨rfl, ⟨m3, hm3⟩⟩; have hb3 := Aside0.mk hm3; clear hm3)
            | (go_at_call 50; (with_reducible refine (bound_calls w0 _ g vs _ W0 hE2'.out).mono ?_); rintro e w3 ⟨rfl, hE3⟩; have hE3' := Aside0.mk hE3; clear hE3)
            | fail)
          go_ret
          obtain ⟨e1, e2⟩ := Prod.mk.inj hR.out
          rw [← e1, ← e2]
          exact ⟨rfl, hE2'.out⟩
      have h5 := Aside0.mk hop
      clear hop
      by_cases hop : op = sEq
      · have f1 : (op.toList == [43]) = false := by rw [(opF op).p1]; rw [hop]; decide
        have f2 : (op.toList == [45]) = false := by rw [(opF op).p2]; rw [hop]; decide
        have f3 : (op.toList == [42]) = false := by rw [(opF op).p3]; rw [hop]; decide
        have f4 : (op.toList == [60]) = false := by rw [(opF op).p4]; rw [hop]; decide
        have f5 : (op.toList == [60, 61]) = false := by rw [(opF op).p5]; rw [hop]; decide
        have f6 : (op.toList == [61, 61]) = true := by rw [(opF op).p6]; rw [hop]; decide
        have f7 : (op.toList == [33, 61]) = false := by rw [(opF op).p7]; rw [hop]; decide
        have f8 : (op.toList == [38, 38]) = false := by rw [(opF op).p8]; rw [hop]; decide
        have f9 : (op.toList == [124, 124]) = false := by rw [(opF op).p9]; rw [hop]; decide
        have hop' := Aside0.mk hop
        clear hop
        by_cases hy0 : ye = 0
        · subst hy0
          have hR : Aside0 ((tru (xn == yn), 0) = (rn, re)) := ⟨by rw [← hres'.out, if_neg (by rw [hop'.out]; simp [show sEq ≠ sAnd from by decide, show sEq ≠ sOr from by decide]), if_neg (by simp)]; unfold arith; rw [hop'.out]; rfl⟩
          go_enter Tryd.func34, Tryd.ntmps34
          go_upto_region 1 with fail
          refine wp_world (fun W hW => ?_)
          obtain ⟨b, hb⟩ : ∃ b, w.heap.size = b := ⟨_, rfl⟩
          obtain ⟨A, c, _, _, _, _, _, hgl⟩ := h'.out.cells
          have hbg : Aside0 (b ≠ g) := ⟨by omega⟩
          have hX : W.heap[w.heap.size]? = some (.cells #[.string op, (.iface t1 u1), (.iface t2 u2)] 50 (0, 0)) := by rw [hW]; exact blk_new _ _
          have hEW : Aside0 (Ev w0 g vs 0 W0 W) := ⟨h'.out.step (by rw [hW]; exact below_alloc (Below.refl _ _) _)⟩
          rw [hb] at hX
          rw [hb]
          have o0 : W.cell? ⟨b, 0, none⟩ = some (.string op) := (blk_cell hX 0).trans rfl
          have o1 : W.cell? ⟨b, 1, none⟩ = some (.iface t1 u1) := (blk_cell hX 1).trans rfl
          have o2 : W.cell? ⟨b, 2, none⟩ = some (.iface t2 u2) := (blk_cell hX 2).trans rfl
          have hX' := Aside0.mk hX
          clear hW hX hgl
          go_upto_region 2 with (first
            | (go_at_call 20; (with_reducible refine (hl'.out _ hEW.out).mono ?_); rintro e w1 ⟨rfl, hE1⟩; have hE1' := Aside0.mk (hEW.out.trans hE1); obtain ⟨A1, c1, _, _, a1, _, _, hgl1⟩ := hE1.cells; have hX1 := Aside0.mk (hE1.blk hX'.out hbg.out); have o0' : w1.cell? ⟨b, 0, none⟩ = some (.string op) := (blk_cell hX1.out 0).trans rfl; have o2' : w1.cell? ⟨b, 2, none⟩ = some (.iface t2 u2) := (blk_cell hX1.out 2).trans rfl; clear hE1)
            | fail)
          clear o0 o1 o2
          go_wp2_with (first
            | (go_at_call 20; (with_reducible refine (hr'.out _ hE1'.out).mono ?_); rintro e w2 ⟨rfl, hE2⟩; have hE2' := Aside0.mk (hE1'.out.trans hE2); obtain ⟨A2, c2, _, _, a2, _, _, hgl2⟩ := hE2.cells; have hX2 := Aside0.mk (hE2.blk hX1.out hbg.out); have o0'' : w2.cell? ⟨b, 0, none⟩ = some (.string op) := (blk_cell hX2.out 0).trans rfl; clear hE2 o0' o2' a1)
            | (go_at_call 33; (with_reducible refine (truth_calls _ _).mono ?_); rintro e w3 ⟨rfl, ⟨m3, hm3⟩⟩; have hb3 := Aside0.mk hm3; clear hm3)
            | (go_at_call 50; (with_reducible refine (bound_calls w0 _ g vs _ W0 hE2'.out).mono ?_); rintro e w3 ⟨rfl, hE3⟩; have hE3' := Aside0.mk hE3; clear hE3)
            | fail)
          go_ret
          obtain ⟨e1, e2⟩ := Prod.mk.inj hR.out
          rw [← e1, ← e2]
          exact ⟨rfl, (hE2'.out.step (by rw [hb3.out]; exact pw_below_drewN (Below.refl _ _) _))⟩
        · have dy : (ye != 0) = true := by simpa using hy0
          have hy0' := Aside0.mk hy0
          have hR : Aside0 ((0, ye) = (rn, re)) := ⟨by rw [← hres'.out, if_neg (by rw [hop'.out]; simp [show sEq ≠ sAnd from by decide, show sEq ≠ sOr from by decide]), if_pos hy0'.out]⟩
          clear hy0
          go_enter Tryd.func34, Tryd.ntmps34
          go_upto_region 1 with fail
          refine wp_world (fun W hW => ?_)
          obtain ⟨b, hb⟩ : ∃ b, w.heap.size = b := ⟨_, rfl⟩
          obtain ⟨A, c, _, _, _, _, _, hgl⟩ := h'.out.cells
          have hbg : Aside0 (b ≠ g) := ⟨by omega⟩
          have hX : W.heap[w.heap.size]? = some (.cells #[.string op, (.iface t1 u1), (.iface t2 u2)] 50 (0, 0)) := by rw [hW]; exact blk_new _ _
          have hEW : Aside0 (Ev w0 g vs 0 W0 W) := ⟨h'.out.step (by rw [hW]; exact below_alloc (Below.refl _ _) _)⟩
          rw [hb] at hX
          rw [hb]
          have o0 : W.cell? ⟨b, 0, none⟩ = some (.string op) := (blk_cell hX 0).trans rfl
          have o1 : W.cell? ⟨b, 1, none⟩ = some (.iface t1 u1) := (blk_cell hX 1).trans rfl
          have o2 : W.cell? ⟨b, 2, none⟩ = some (.iface t2 u2) := (blk_cell hX 2).trans rfl
          have hX' := Aside0.mk hX
          clear hW hX hgl
          go_upto_region 2 with (first
            | (go_at_call 20; (with_reducible refine (hl'.out _ hEW.out).mono ?_); rintro e w1 ⟨rfl, hE1⟩; have hE1' := Aside0.mk (hEW.out.trans hE1); obtain ⟨A1, c1, _, _, a1, _, _, hgl1⟩ := hE1.cells; have hX1 := Aside0.mk (hE1.blk hX'.out hbg.out); have o0' : w1.cell? ⟨b, 0, none⟩ = some (.string op) := (blk_cell hX1.out 0).trans rfl; have o2' : w1.cell? ⟨b, 2, none⟩ = some (.iface t2 u2) := (blk_cell hX1.out 2).trans rfl; clear hE1)
            | fail)
          clear o0 o1 o2
          go_wp2_with (first
            | (go_at_call 20; (with_reducible refine (hr'.out _ hE1'.out).mono ?_); rintro e w2 ⟨rfl, hE2⟩; have hE2' := Aside0.mk (hE1'.out.trans hE2); obtain ⟨A2, c2, _, _, a2, _, _, hgl2⟩ := hE2.cells; have hX2 := Aside0.mk (hE2.blk hX1.out hbg.out); have o0'' : w2.cell? ⟨b, 0, none⟩ = some (.string op) := (blk_cell hX2.out 0).trans rfl; clear hE2 o0' o2' a1)
            | (go_at_call 33; (with_reducible refine (truth_calls _ _).mono ?_); rintro e w3 ⟨rfl, ⟨m3, hm3⟩⟩; have hb3 := Aside0.mk hm3; clear hm3)
            | (go_at_call 50; (with_reducible refine (bound_calls w0 _ g vs _ W0 hE2'.out).mono ?_); rintro e w3 ⟨rfl, hE3⟩; have hE3' := Aside0.mk hE3; clear hE3)
            | fail)
          go_ret
          obtain ⟨e1, e2⟩ := Prod.mk.inj hR.out
          rw [← e1, ← e2]
          exact ⟨rfl, hE2'.out⟩
      have h6 := Aside0.mk hop
      clear hop
      by_cases hop : op = sNe
      · have f1 : (op.toList == [43]) = false := by rw [(opF op).p1]; rw [hop]; decide
        have f2 : (op.toList == [45]) = false := by rw [(opF op).p2]; rw [hop]; decide
        have f3 : (op.toList == [42]) = false := by rw [(opF op).p3]; rw [hop]; decide
        have f4 : (op.toList == [60]) = false := by rw [(opF op).p4]; rw [hop]; decide
        have f5 : (op.toList == [60, 61]) = false := by rw [(opF op).p5]; rw [hop]; decide
        have f6 : (op.toList == [61, 61]) = false := by rw [(opF op).p6]; rw [hop]; decide
        have f7 : (op.toList == [33, 61]) = true := by rw [(opF op).p7]; rw [hop]; decide
        have f8 : (op.toList == [38, 38]) = false := by rw [(opF op).p8]; rw [hop]; decide
        have f9 : (op.toList == [124, 124]) = false := by rw [(opF op).p9]; rw [hop]; decide
        have hop' := Aside0.mk hop
        clear hop
        by_cases hy0 : ye = 0
        · subst hy0
          have hR : Aside0 ((tru (xn != yn), 0) = (rn, re)) := ⟨by rw [← hres'.out, if_neg (by rw [hop'.out]; simp [show sNe ≠ sAnd from by decide, show sNe ≠ sOr from by decide]), if_neg (by simp)]; unfold arith; rw [hop'.out]; rfl⟩
          go_enter Tryd.func34, Tryd.ntmps34
          go_upto_region 1 with fail
          refine wp_world (fun W hW => ?_)
          obtain ⟨b, hb⟩ : ∃ b, w.heap.size = b := ⟨_, rfl⟩
          obtain ⟨A, c, _, _, _, _, _, hgl⟩ := h'.out.cells
          have hbg : Aside0 (b ≠ g) := ⟨by omega⟩
          have hX : W.heap[w.heap.size]? = some (.cells #[.string op, (.iface t1 u1), (.iface t2 u2)] 50 (0, 0)) := by rw [hW]; exact blk_new _ _
          have hEW : Aside0 (Ev w0 g vs 0 W0 W) := ⟨h'.out.step (by rw [hW]; exact below_alloc (Below.refl _ _) _)⟩
          rw [hb] at hX
          rw [hb]
          have o0 : W.cell? ⟨b, 0, none⟩ = some (.string op) := (blk_cell hX 0).trans rfl
          have o1 : W.cell? ⟨b, 1, none⟩ = some (.iface t1 u1) := (blk_cell hX 1).trans rfl
          have o2 : W.cell? ⟨b, 2, none⟩ = some (.iface t2 u2) := (blk_cell hX 2).trans rfl
          have hX' := Aside0.mk hX
          clear hW hX hgl
          go_upto_region 2 with (first
            | (go_at_call 20; (with_reducible refine (hl'.out _ hEW.out).mono ?_); rintro e w1 ⟨rfl, hE1⟩; have hE1' := Aside0.mk (hEW.out.trans hE1); obtain ⟨A1, c1, _, _, a1, _, _, hgl1⟩ := hE1.cells; have hX1 := Aside0.mk (hE1.blk hX'.out hbg.out); have o0' : w1.cell? ⟨b, 0, none⟩ = some (.string op) := (blk_cell hX1.out 0).trans rfl; have o2' : w1.cell? ⟨b, 2, none⟩ = some (.iface t2 u2) := (blk_cell hX1.out 2).trans rfl; clear hE1)
            | fail)
          clear o0 o1 o2
          go_wp2_with (first
            | (go_at_call 20; (with_reducible refine (hr'.out _ hE1'.out).mono ?_); rintro e w2 ⟨rfl, hE2⟩; have hE2' := Aside0.mk (hE1'.out.trans hE2); obtain ⟨A2, c2, _, _, a2, _, _, hgl2⟩ := hE2.cells; have hX2 := Aside0.mk (hE2.blk hX1.out hbg.out); have o0'' : w2.cell? ⟨b, 0, none⟩ = some (.string op) := (blk_cell hX2.out 0).trans rfl; clear hE2 o0' o2' a1)
            | (go_at_call 33; (with_reducible refine (truth_calls _ _).mono ?_); rintro e w3 ⟨rfl, ⟨m3, hm3⟩⟩; have hb3 := Aside0.mk hm3; clear hm3)
            | (go_at_call 50; (with_reducible refine (bound_calls w0 _ g vs _ W0 hE2'.out).mono ?_); rintro e w3 ⟨rfl, hE3⟩; have hE3' := Aside0.mk hE3; clear hE3)
            | fail)
          go_ret
          obtain ⟨e1, e2⟩ := Prod.mk.inj hR.out
          rw [← e1, ← e2]
          exact ⟨rfl, (hE2'.out.step (by rw [hb3.out]; exact pw_below_drewN (Below.refl _ _) _))⟩
        · have dy : (ye != 0) = true := by simpa using hy0
          have hy0' := Aside0.mk hy0
          have hR : Aside0 ((0, ye) = (rn, re)) := ⟨by rw [← hres'.out, if_neg (by rw [hop'.out]; simp [show sNe ≠ sAnd from by decide, show sNe ≠ sOr from by decide]), if_pos hy0'.out]⟩
          clear hy0
          go_enter Tryd.func34, Tryd.ntmps34
          go_upto_region 1 with fail
          refine wp_world (fun W hW => ?_)
          obtain ⟨b, hb⟩ : ∃ b, w.heap.size = b := ⟨_, rfl⟩
          obtain ⟨A, c, _, _, _, _, _, hgl⟩ := h'.out.cells
          have hbg : Aside0 (b ≠ g) := ⟨by omega⟩
          have hX : W.heap[w.heap.size]? = some (.cells #[.string op, (.iface t1 u1), (.iface t2 u2)] 50 (0, 0)) := by rw [hW]; exact blk_new _ _
          have hEW : Aside0 (Ev w0 g vs 0 W0 W) := ⟨h'.out.step (by rw [hW]; exact below_alloc (Below.refl _ _) _)⟩
          rw [hb] at hX
          rw [hb]
          have o0 : W.cell? ⟨b, 0, none⟩ = some (.string op) := (blk_cell hX 0).trans rfl
          have o1 : W.cell? ⟨b, 1, none⟩ = some (.iface t1 u1) := (blk_cell hX 1).trans rfl
          have o2 : W.cell? ⟨b, 2, none⟩ = some (.iface t2 u2) := (blk_cell hX 2).trans rfl
          have hX' := Aside0.mk hX
          clear hW hX hgl
          go_upto_region 2 with (first
            | (go_at_call 20; (with_reducible refine (hl'.out _ hEW.out).mono ?_); rintro e w1 ⟨rfl, hE1⟩; have hE1' := Aside0.mk (hEW.out.trans hE1); obtain ⟨A1, c1, _, _, a1, _, _, hgl1⟩ := hE1.cells; have hX1 := Aside0.mk (hE1.blk hX'.out hbg.out); have o0' : w1.cell? ⟨b, 0, none⟩ = some (.string op) := (blk_cell hX1.out 0).trans rfl; have o2' : w1.cell? ⟨b, 2, none⟩ = some (.iface t2 u2) := (blk_cell hX1.out 2).trans rfl; clear hE1)
            | fail)
          clear o0 o1 o2
          go_wp2_with (first
            | (go_at_call 20; (with_reducible refine (hr'.out _ hE1'.out).mono ?_); rintro e w2 ⟨rfl, hE2⟩; have hE2' := Aside0.mk (hE1'.out.trans hE2); obtain ⟨A2, c2, _, _, a2, _, _, hgl2⟩ := hE2.cells; have hX2 := Aside0.mk (hE2.blk hX1.out hbg.out); have o0'' : w2.cell? ⟨b, 0, none⟩ = some (.string op) := (blk_cell hX2.out 0).trans rfl; clear hE2 o0' o2' a1)
            | (go_at_call 33; (with_reducible refine (truth_calls _ _).mono ?_); rintro e w3 ⟨rfl, ⟨m3, hm3⟩⟩; have hb3 := Aside0.mk hm3; clear hm3)
            | (go_at_call 50; (with_reducible refine (bound_calls w0 _ g vs _ W0 hE2'.out).mono ?_); rintro e w3 ⟨rfl, hE3⟩; have hE3' := Aside0.mk hE3; clear hE3)
            | fail)
          go_ret
          obtain ⟨e1, e2⟩ := Prod.mk.inj hR.out
          rw [← e1, ← e2]
          exact ⟨rfl, hE2'.out⟩
      have h7 := Aside0.mk hop
      clear hop
      by_cases hop : op = sAnd
      · have f1 : (op.toList == [43]) = false := by rw [(opF op).p1]; rw [hop]; decide
        have f2 : (op.toList == [45]) = false := by rw [(opF op).p2]; rw [hop]; decide
        have f3 : (op.toList == [42]) = false := by rw [(opF op).p3]; rw [hop]; decide
        have f4 : (op.toList == [60]) = false := by rw [(opF op).p4]; rw [hop]; decide
        have f5 : (op.toList == [60, 61]) = false := by rw [(opF op).p5]; rw [hop]; decide
        have f6 : (op.toList == [61, 61]) = false := by rw [(opF op).p6]; rw [hop]; decide
        have f7 : (op.toList == [33, 61]) = false := by rw [(opF op).p7]; rw [hop]; decide
        have f8 : (op.toList == [38, 38]) = true := by rw [(opF op).p8]; rw [hop]; decide
        have f9 : (op.toList == [124, 124]) = false := by rw [(opF op).p9]; rw [hop]; decide
        have hop' := Aside0.mk hop
        clear hop
        by_cases hq : xn = 0
        · subst hq
          have hR : Aside0 ((tru ((0 : Int) != 0), 0) = (rn, re)) := ⟨by rw [← hres'.out, if_pos (Or.inr (Or.inl ⟨hop'.out, rfl⟩))]⟩
          go_enter Tryd.func34, Tryd.ntmps34
          go_upto_region 1 with fail
          refine wp_world (fun W hW => ?_)
          obtain ⟨b, hb⟩ : ∃ b, w.heap.size = b := ⟨_, rfl⟩
          obtain ⟨A, c, _, _, _, _, _, hgl⟩ := h'.out.cells
          have hbg : Aside0 (b ≠ g) := ⟨by omega⟩
          have hX : W.heap[w.heap.size]? = some (.cells #[.string op, (.iface t1 u1), (.iface t2 u2)] 50 (0, 0)) := by rw [hW]; exact blk_new _ _
          have hEW : Aside0 (Ev w0 g vs 0 W0 W) := ⟨h'.out.step (by rw [hW]; exact below_alloc (Below.refl _ _) _)⟩
          rw [hb] at hX
          rw [hb]
          have o0 : W.cell? ⟨b, 0, none⟩ = some (.string op) := (blk_cell hX 0).trans rfl
          have o1 : W.cell? ⟨b, 1, none⟩ = some (.iface t1 u1) := (blk_cell hX 1).trans rfl
          have o2 : W.cell? ⟨b, 2, none⟩ = some (.iface t2 u2) := (blk_cell hX 2).trans rfl
          have hX' := Aside0.mk hX
          clear hW hX hgl
          go_upto_region 2 with (first
            | (go_at_call 20; (with_reducible refine (hl'.out _ hEW.out).mono ?_); rintro e w1 ⟨rfl, hE1⟩; have hE1' := Aside0.mk (hEW.out.trans hE1); obtain ⟨A1, c1, _, _, a1, _, _, hgl1⟩ := hE1.cells; have hX1 := Aside0.mk (hE1.blk hX'.out hbg.out); have o0' : w1.cell? ⟨b, 0, none⟩ = some (.string op) := (blk_cell hX1.out 0).trans rfl; have o2' : w1.cell? ⟨b, 2, none⟩ = some (.iface t2 u2) := (blk_cell hX1.out 2).trans rfl; clear hE1)
            | fail)
          clear o0 o1 o2
          go_wp2_with (first
            | (go_at_call 20; (with_reducible refine (hr'.out _ hE1'.out).mono ?_); rintro e w2 ⟨rfl, hE2⟩; have hE2' := Aside0.mk (hE1'.out.trans hE2); obtain ⟨A2, c2, _, _, a2, _, _, hgl2⟩ := hE2.cells; have hX2 := Aside0.mk (hE2.blk hX1.out hbg.out); have o0'' : w2.cell? ⟨b, 0, none⟩ = some (.string op) := (blk_cell hX2.out 0).trans rfl; clear hE2 o0' o2' a1)
            | (go_at_call 33; (with_reducible refine (truth_calls _ _).mono ?_); rintro e w3 ⟨rfl, ⟨m3, hm3⟩⟩; have hb3 := Aside0.mk hm3; clear hm3)
            | (go_at_call 50; (with_reducible refine (bound_calls w0 _ g vs _ W0 hE2'.out).mono ?_); rintro e w3 ⟨rfl, hE3⟩; have hE3' := Aside0.mk hE3; clear hE3)
            | fail)
          go_ret
          obtain ⟨e1, e2⟩ := Prod.mk.inj hR.out
          rw [← e1, ← e2]
          exact ⟨rfl, (hE1'.out.step (by rw [hb3.out]; exact pw_below_drewN (Below.refl _ _) _))⟩
        · have dq : (xn == 0) = false := by simpa using hq
          have hq' := Aside0.mk hq
          clear hq
          by_cases hy0 : ye = 0
          · subst hy0
            have hR : Aside0 ((tru (yn != 0), 0) = (rn, re)) := ⟨by rw [← hres'.out, if_neg (by rw [hop'.out]; simp [hq'.out, show sAnd ≠ sOr from by decide]), if_neg (by simp)]; unfold arith; rw [hop'.out]; rfl⟩
            go_enter Tryd.func34, Tryd.ntmps34
            go_upto_region 1 with fail
            refine wp_world (fun W hW => ?_)
            obtain ⟨b, hb⟩ : ∃ b, w.heap.size = b := ⟨_, rfl⟩
            obtain ⟨A, c, _, _, _, _, _, hgl⟩ := h'.out.cells
            have hbg : Aside0 (b ≠ g) := ⟨by omega⟩
            have hX : W.heap[w.heap.size]? = some (.cells #[.string op, (.iface t1 u1), (.iface t2 u2)] 50 (0, 0)) := by rw [hW]; exact blk_new _ _
            have hEW : Aside0 (Ev w0 g vs 0 W0 W) := ⟨h'.out.step (by rw [hW]; exact below_alloc (Below.refl _ _) _)⟩
            rw [hb] at hX
            rw [hb]
            have o0 : W.cell? ⟨b, 0, none⟩ = some (.string op) := (blk_cell hX 0).trans rfl
            have o1 : W.cell? ⟨b, 1, none⟩ = some (.iface t1 u1) := (blk_cell hX 1).trans rfl
            have o2 : W.cell? ⟨b, 2, none⟩ = some (.iface t2 u2) := (blk_cell hX 2).trans rfl
            have hX' := Aside0.mk hX
            clear hW hX hgl
            go_upto_region 2 with (first
              | (go_at_call 20; (with_reducible refine (hl'.out _ hEW.out).mono ?_); rintro e w1 ⟨rfl, hE1⟩; have hE1' := Aside0.mk (hEW.out.trans hE1); obtain ⟨A1, c1, _, _, a1, _, _, hgl1⟩ := hE1.cells; have hX1 := Aside0.mk (hE1.blk hX'.out hbg.out); have o0' : w1.cell? ⟨b, 0, none⟩ = some (.string op) := (blk_cell hX1.out 0).trans rfl; have o2' : w1.cell? ⟨b, 2, none⟩ = some (.iface t2 u2) := (blk_cell hX1.out 2).trans rfl; clear hE1)
              | fail)
            clear o0 o1 o2
            go_wp2_with (first
              | (go_at_call 20; (with_reducible refine (hr'.out _ hE1'.out).mono ?_); rintro e w2 ⟨rfl, hE2⟩; have hE2' := Aside0.mk (hE1'.out.trans hE2); obtain ⟨A2, c2, _, _, a2, _, _, hgl2⟩ := hE2.cells; have hX2 := Aside0.mk (hE2.blk hX1.out hbg.out); have o0'' : w2.cell? ⟨b, 0, none⟩ = some (.string op) := (blk_cell hX2.out 0).trans rfl; clear hE2 o0' o2' a1)
              | (go_at_call 33; (with_reducible refine (truth_calls _ _).mono ?_); rintro e w3 ⟨rfl, ⟨m3, hm3⟩⟩; have hb3 := Aside0.mk hm3; clear hm3)
              | (go_at_call 50; (with_reducible refine (bound_calls w0 _ g vs _ W0 hE2'.out).mono ?_); rintro e w3 ⟨rfl, hE3⟩; have hE3' := Aside0.mk hE3; clear hE3)
              | fail)
            go_ret
            obtain ⟨e1, e2⟩ := Prod.mk.inj hR.out
            rw [← e1, ← e2]
            exact ⟨rfl, (hE2'.out.step (by rw [hb3.out]; exact pw_below_drewN (Below.refl _ _) _))⟩
          · have dy : (ye != 0) = true := by simpa using hy0
            have hy0' := Aside0.mk hy0
            have hR : Aside0 ((0, ye) = (rn, re)) := ⟨by rw [← hres'.out, if_neg (by rw [hop'.out]; simp [hq'.out, show sAnd ≠ sOr from by decide]), if_pos hy0'.out]⟩
            clear hy0
            go_enter Tryd.func34, Tryd.ntmps34
            go_upto_region 1 with fail
            refine wp_world (fun W hW => ?_)
            obtain ⟨b, hb⟩ : ∃ b, w.heap.size = b := ⟨_, rfl⟩
            obtain ⟨A, c, _, _, _, _, _, hgl⟩ := h'.out.cells
            have hbg : Aside0 (b ≠ g) := ⟨by omega⟩
            have hX : W.heap[w.heap.size]? = some (.cells #[.string op, (.iface t1 u1), (.iface t2 u2)] 50 (0, 0)) := by rw [hW]; exact blk_new _ _
            have hEW : Aside0 (Ev w0 g vs 0 W0 W) := ⟨h'.out.step (by rw [hW]; exact below_alloc (Below.refl _ _) _)⟩
            rw [hb] at hX
            rw [hb]
            have o0 : W.cell? ⟨b, 0, none⟩ = some (.string op) := (blk_cell hX 0).trans rfl
            have o1 : W.cell? ⟨b, 1, none⟩ = some (.iface t1 u1) := (blk_cell hX 1).trans rfl
            have o2 : W.cell? ⟨b, 2, none⟩ = some (.iface t2 u2) := (blk_cell hX 2).trans rfl
            have hX' := Aside0.mk hX
            clear hW hX hgl
            go_upto_region 2 with (first
              | (go_at_call 20; (with_reducible refine (hl'.out _ hEW.out).mono ?_); rintro e w1 ⟨rfl, hE1⟩; have hE1' := Aside0.mk (hEW.out.trans hE1); obtain ⟨A1, c1, _, _, a1, _, _, hgl1⟩ := hE1.cells; have hX1 := Aside0.mk (hE1.blk hX'.out hbg.out); have o0' : w1.cell? ⟨b, 0, none⟩ = some (.string op) := (blk_cell hX1.out 0).trans rfl; have o2' : w1.cell? ⟨b, 2, none⟩ = some (.iface t2 u2) := (blk_cell hX1.out 2).trans rfl; clear hE1)
              | fail)
            clear o0 o1 o2
            go_wp2_with (first
              | (go_at_call 20; (with_reducible refine (hr'.out _ hE1'.out).mono ?_); rintro e w2 ⟨rfl, hE2⟩; have hE2' := Aside0.mk (hE1'.out.trans hE2); obtain ⟨A2, c2, _, _, a2, _, _, hgl2⟩ := hE2.cells; have hX2 := Aside0.mk (hE2.blk hX1.out hbg.out); have o0'' : w2.cell? ⟨b, 0, none⟩ = some (.string op) := (blk_cell hX2.out 0).trans rfl; clear hE2 o0' o2' a1)
              | (go_at_call 33; (with_reducible refine (truth_calls _ _).mono ?_); rintro e w3 ⟨rfl, ⟨m3, hm3⟩⟩; have hb3 := Aside0.mk hm3; clear hm3)
              | (go_at_call 50; (with_reducible refine (bound_calls w0 _ g vs _ W0 hE2'.out).mono ?_); rintro e w3 ⟨rfl, hE3⟩; have hE3' := Aside0.mk hE3; clear hE3)
              | fail)
            go_ret
            obtain ⟨e1, e2⟩ := Prod.mk.inj hR.out
            rw [← e1, ← e2]
            exact ⟨rfl, hE2'.out⟩
      have h8 := Aside0.mk hop
      clear hop
      by_cases hop : op = sOr
      · have f1 : (op.toList == [43]) = false := by rw [(opF op).p1]; rw [hop]; decide
        have f2 : (op.toList == [45]) = false := by rw [(opF op).p2]; rw [hop]; decide
        have f3 : (op.toList == [42]) = false := by rw [(opF op).p3]; rw [hop]; decide
        have f4 : (op.toList == [60]) = false := by rw [(opF op).p4]; rw [hop]; decide
        have f5 : (op.toList == [60, 61]) = false := by rw [(opF op).p5]; rw [hop]; decide
        have f6 : (op.toList == [61, 61]) = false := by rw [(opF op).p6]; rw [hop]; decide
        have f7 : (op.toList == [33, 61]) = false := by rw [(opF op).p7]; rw [hop]; decide
        have f8 : (op.toList == [38, 38]) = false := by rw [(opF op).p8]; rw [hop]; decide
        have f9 : (op.toList == [124, 124]) = true := by rw [(opF op).p9]; rw [hop]; decide
        have hop' := Aside0.mk hop
        clear hop
        by_cases hq : xn = 0
        · subst hq
          by_cases hy0 : ye = 0
          · subst hy0
            have hR : Aside0 ((tru (yn != 0), 0) = (rn, re)) := ⟨by rw [← hres'.out, if_neg (by rw [hop'.out]; simp [show sOr ≠ sAnd from by decide]), if_neg (by simp)]; unfold arith; rw [hop'.out]; rfl⟩
            go_enter Tryd.func34, Tryd.ntmps34
            go_upto_region 1 with fail
            refine wp_world (fun W hW => ?_)
            obtain ⟨b, hb⟩ : ∃ b, w.heap.size = b := ⟨_, rfl⟩
            obtain ⟨A, c, _, _, _, _, _, hgl⟩ := h'.out.cells
            have hbg : Aside0 (b ≠ g) := ⟨by omega⟩
            have hX : W.heap[w.heap.size]? = some (.cells #[.string op, (.iface t1 u1), (.iface t2 u2)] 50 (0, 0)) := by rw [hW]; exact blk_new _ _
            have hEW : Aside0 (Ev w0 g vs 0 W0 W) := ⟨h'.out.step (by rw [hW]; exact below_alloc (Below.refl _ _) _)⟩
            rw [hb] at hX
            rw [hb]
            have o0 : W.cell? ⟨b, 0, none⟩ = some (.string op) := (blk_cell hX 0).trans rfl
            have o1 : W.cell? ⟨b, 1, none⟩ = some (.iface t1 u1) := (blk_cell hX 1).trans rfl
            have o2 : W.cell? ⟨b, 2, none⟩ = some (.iface t2 u2) := (blk_cell hX 2).trans rfl
            have hX' := Aside0.mk hX
            clear hW hX hgl
            go_upto_region 2 with (first
              | (go_at_call 20; (with_reducible refine (hl'.out _ hEW.out).mono ?_); rintro e w1 ⟨rfl, hE1⟩; have hE1' := Aside0.mk (hEW.out.trans hE1); obtain ⟨A1, c1, _, _, a1, _, _, hgl1⟩ := hE1.cells; have hX1 := Aside0.mk (hE1.blk hX'.out hbg.out); have o0' : w1.cell? ⟨b, 0, none⟩ = some (.string op) := (blk_cell hX1.out 0).trans rfl; have o2' : w1.cell? ⟨b, 2, none⟩ = some (.iface t2 u2) := (blk_cell hX1.out 2).trans rfl; clear hE1)
              | fail)
            clear o0 o1 o2
            go_wp2_with (first
              | (go_at_call 20; (with_reducible refine (hr'.out _ hE1'.out).mono ?_); rintro e w2 ⟨rfl, hE2⟩; have hE2' := Aside0.mk (hE1'.out.trans hE2); obtain ⟨A2, c2, _, _, a2, _, _, hgl2⟩ := hE2.cells; have hX2 := Aside0.mk (hE2.blk hX1.out hbg.out); have o0'' : w2.cell? ⟨b, 0, none⟩ = some (.string op) := (blk_cell hX2.out 0).trans rfl; clear hE2 o0' o2' a1)
              | (go_at_call 33; (with_reducible refine (truth_calls _ _).mono ?_); rintro e w3 ⟨rfl, ⟨m3, hm3⟩⟩; have hb3 := Aside0.mk hm3; clear hm3)
              | (go_at_call 50; (with_reducible refine (bound_calls w0 _ g vs _ W0 hE2'.out).mono ?_); rintro e w3 ⟨rfl, hE3⟩; have hE3' := Aside0.mk hE3; clear hE3)
              | fail)
            go_ret
            obtain ⟨e1, e2⟩ := Prod.mk.inj hR.out
            rw [← e1, ← e2]
            exact ⟨rfl, (hE2'.out.step (by rw [hb3.out]; exact pw_below_drewN (Below.refl _ _) _))⟩
          · have dy : (ye != 0) = true := by simpa using hy0
            have hy0' := Aside0.mk hy0
            have hR : Aside0 ((0, ye) = (rn, re)) := ⟨by rw [← hres'.out, if_neg (by rw [hop'.out]; simp [show sOr ≠ sAnd from by decide]), if_pos hy0'.out]⟩
            clear hy0
            go_enter Tryd.func34, Tryd.ntmps34
            go_upto_region 1 with fail
            refine wp_world (fun W hW => ?_)
            obtain ⟨b, hb⟩ : ∃ b, w.heap.size = b := ⟨_, rfl⟩
            obtain ⟨A, c, _, _, _, _, _, hgl⟩ := h'.out.cells
            have hbg : Aside0 (b ≠ g) := ⟨by omega⟩
            have hX : W.heap[w.heap.size]? = some (.cells #[.string op, (.iface t1 u1), (.iface t2 u2)] 50 (0, 0)) := by rw [hW]; exact blk_new _ _
            have hEW : Aside0 (Ev w0 g vs 0 W0 W) := ⟨h'.out.step (by rw [hW]; exact below_alloc (Below.refl _ _) _)⟩
            rw [hb] at hX
            rw [hb]
            have o0 : W.cell? ⟨b, 0, none⟩ = some (.string op) := (blk_cell hX 0).trans rfl
            have o1 : W.cell? ⟨b, 1, none⟩ = some (.iface t1 u1) := (blk_cell hX 1).trans rfl
            have o2 : W.cell? ⟨b, 2, none⟩ = some (.iface t2 u2) := (blk_cell hX 2).trans rfl
            have hX' := Aside0.mk hX
            clear hW hX hgl
            go_upto_region 2 with (first
              | (go_at_call 20; (with_reducible refine (hl'.out _ hEW.out).mono ?_); rintro e w1 ⟨rfl, hE1⟩; have hE1' := Aside0.mk (hEW.out.trans hE1); obtain ⟨A1, c1, _, _, a1, _, _, hgl1⟩ := hE1.cells; have hX1 := Aside0.mk (hE1.blk hX'.out hbg.out); have o0' : w1.cell? ⟨b, 0, none⟩ = some (.string op) := (blk_cell hX1.out 0).trans rfl; have o2' : w1.cell? ⟨b, 2, none⟩ = some (.iface t2 u2) := (blk_cell hX1.out 2).trans rfl; clear hE1)
              | fail)
            clear o0 o1 o2
            go_wp2_with (first
              | (go_at_call 20; (with_reducible refine (hr'.out _ hE1'.out).mono ?_); rintro e w2 ⟨rfl, hE2⟩; have hE2' := Aside0.mk (hE1'.out.trans hE2); obtain ⟨A2, c2, _, _, a2, _, _, hgl2⟩ := hE2.cells; have hX2 := Aside0.mk (hE2.blk hX1.out hbg.out); have o0'' : w2.cell? ⟨b, 0, none⟩ = some (.string op) := (blk_cell hX2.out 0).trans rfl; clear hE2 o0' o2' a1)
              | (go_at_call 33; (with_reducible refine (truth_calls _ _).mono ?_); rintro e w3 ⟨rfl, ⟨m3, hm3⟩⟩; have hb3 := Aside0.mk hm3; clear hm3)
              | (go_at_call 50; (with_reducible refine (bound_calls w0 _ g vs _ W0 hE2'.out).mono ?_); rintro e w3 ⟨rfl, hE3⟩; have hE3' := Aside0.mk hE3; clear hE3)
              | fail)
            go_ret
            obtain ⟨e1, e2⟩ := Prod.mk.inj hR.out
            rw [← e1, ← e2]
            exact ⟨rfl, hE2'.out⟩
        · have dq : (xn != 0) = true := by simpa using hq
          have hq' := Aside0.mk hq
          clear hq
          have hR : Aside0 ((tru true, 0) = (rn, re)) := ⟨by rw [← hres'.out, if_pos (Or.inr (Or.inr ⟨hop'.out, hq'.out⟩)), dq]⟩
          go_enter Tryd.func34, Tryd.ntmps34
          go_upto_region 1 with fail
          refine wp_world (fun W hW => ?_)
          obtain ⟨b, hb⟩ : ∃ b, w.heap.size = b := ⟨_, rfl⟩
          obtain ⟨A, c, _, _, _, _, _, hgl⟩ := h'.out.cells
          have hbg : Aside0 (b ≠ g) := ⟨by omega⟩
          have hX : W.heap[w.heap.size]? = some (.cells #[.string op, (.iface t1 u1), (.iface t2 u2)] 50 (0, 0)) := by rw [hW]; exact blk_new _ _
          have hEW : Aside0 (Ev w0 g vs 0 W0 W) := ⟨h'.out.step (by rw [hW]; exact below_alloc (Below.refl _ _) _)⟩
          rw [hb] at hX
          rw [hb]
          have o0 : W.cell? ⟨b, 0, none⟩ = some (.string op) := (blk_cell hX 0).trans rfl
          have o1 : W.cell? ⟨b, 1, none⟩ = some (.iface t1 u1) := (blk_cell hX 1).trans rfl
          have o2 : W.cell? ⟨b, 2, none⟩ = some (.iface t2 u2) := (blk_cell hX 2).trans rfl
          have hX' := Aside0.mk hX
          clear hW hX hgl
          go_upto_region 2 with (first
            | (go_at_call 20; (with_reducible refine (hl'.out _ hEW.out).mono ?_); rintro e w1 ⟨rfl, hE1⟩; have hE1' := Aside0.mk (hEW.out.trans hE1); obtain ⟨A1, c1, _, _, a1, _, _, hgl1⟩ := hE1.cells; have hX1 := Aside0.mk (hE1.blk hX'.out hbg.out); have o0' : w1.cell? ⟨b, 0, none⟩ = some (.string op) := (blk_cell hX1.out 0).trans rfl; have o2' : w1.cell? ⟨b, 2, none⟩ = some (.iface t2 u2) := (blk_cell hX1.out 2).trans rfl; clear hE1)
            | fail)
          clear o0 o1 o2
          go_wp2_with (first
            | (go_at_call 20; (with_reducible refine (hr'.out _ hE1'.out).mono ?_); rintro e w2 ⟨rfl, hE2⟩; have hE2' := Aside0.mk (hE1'.out.trans hE2); obtain ⟨A2, c2, _, _, a2, _, _, hgl2⟩ := hE2.cells; have hX2 := Aside0.mk (hE2.blk hX1.out hbg.out); have o0'' : w2.cell? ⟨b, 0, none⟩ = some (.string op) := (blk_cell hX2.out 0).trans rfl; clear hE2 o0' o2' a1)
            | (go_at_call 33; (with_reducible refine (truth_calls _ _).mono ?_); rintro e w3 ⟨rfl, ⟨m3, hm3⟩⟩; have hb3 := Aside0.mk hm3; clear hm3)
            | (go_at_call 50; (with_reducible refine (bound_calls w0 _ g vs _ W0 hE2'.out).mono ?_); rintro e w3 ⟨rfl, hE3⟩; have hE3' := Aside0.mk hE3; clear hE3)
            | fail)
          go_ret
          obtain ⟨e1, e2⟩ := Prod.mk.inj hR.out
          rw [← e1, ← e2]
          exact ⟨rfl, (hE1'.out.step (by rw [hb3.out]; exact pw_below_drewN (Below.refl _ _) _))⟩
      have h9 := Aside0.mk hop
      clear hop
      have f1 : (op.toList == [43]) = false := by rw [(opF op).p1]; exact decide_eq_false h1.out
      have f2 : (op.toList == [45]) = false := by rw [(opF op).p2]; exact decide_eq_false h2.out
      have f3 : (op.toList == [42]) = false := by rw [(opF op).p3]; exact decide_eq_false h3.out
      have f4 : (op.toList == [60]) = false := by rw [(opF op).p4]; exact decide_eq_false h4.out
      have f5 : (op.toList == [60, 61]) = false := by rw [(opF op).p5]; exact decide_eq_false h5.out
      have f6 : (op.toList == [61, 61]) = false := by rw [(opF op).p6]; exact decide_eq_false h6.out
      have f7 : (op.toList == [33, 61]) = false := by rw [(opF op).p7]; exact decide_eq_false h7.out
      have f8 : (op.toList == [38, 38]) = false := by rw [(opF op).p8]; exact decide_eq_false h8.out
      have f9 : (op.toList == [124, 124]) = false := by rw [(opF op).p9]; exact decide_eq_false h9.out
      by_cases hy0 : ye = 0
      · subst hy0
        have hR : Aside0 ((tru (yn != 0), 0) = (rn, re)) := ⟨by rw [← hres'.out, if_neg (by simp [h8.out, h9.out]), if_neg (by simp)]; unfold arith; rw [if_neg h1.out, if_neg h2.out, if_neg h3.out, if_neg h4.out, if_neg h5.out, if_neg h6.out, if_neg h7.out]⟩
        go_enter Tryd.func34, Tryd.ntmps34
        go_upto_region 1 with fail
        refine wp_world (fun W hW => ?_)
        obtain ⟨b, hb⟩ : ∃ b, w.heap.size = b := ⟨_, rfl⟩
        obtain ⟨A, c, _, _, _, _, _, hgl⟩ := h'.out.cells
        have hbg : Aside0 (b ≠ g) := ⟨by omega⟩
        have hX : W.heap[w.heap.size]? = some (.cells #[.string op, (.iface t1 u1), (.iface t2 u2)] 50 (0, 0)) := by rw [hW]; exact blk_new _ _
        have hEW : Aside0 (Ev w0 g vs 0 W0 W) := ⟨h'.out.step (by rw [hW]; exact below_alloc (Below.refl _ _) _)⟩
        rw [hb] at hX
        rw [hb]
        have o0 : W.cell? ⟨b, 0, none⟩ = some (.string op) := (blk_cell hX 0).trans rfl
        have o1 : W.cell? ⟨b, 1, none⟩ = some (.iface t1 u1) := (blk_cell hX 1).trans rfl
        have o2 : W.cell? ⟨b, 2, none⟩ = some (.iface t2 u2) := (blk_cell hX 2).trans rfl
        have hX' := Aside0.mk hX
        clear hW hX hgl
        go_upto_region 2 with (first
          | (go_at_call 20; (with_reducible refine (hl'.out _ hEW.out).mono ?_); rintro e w1 ⟨rfl, hE1⟩; have hE1' := Aside0.mk (hEW.out.trans hE1); obtain ⟨A1, c1, _, _, a1, _, _, hgl1⟩ := hE1.cells; have hX1 := Aside0.mk (hE1.blk hX'.out hbg.out); have o0' : w1.cell? ⟨b, 0, none⟩ = some (.string op) := (blk_cell hX1.out 0).trans rfl; have o2' : w1.cell? ⟨b, 2, none⟩ = some (.iface t2 u2) := (blk_cell hX1.out 2).trans rfl; clear hE1)
          | fail)
        clear o0 o1 o2
        go_wp2_with (first
          | (go_at_call 20; (with_reducible refine (hr'.out _ hE1'.out).mono ?_); rintro e w2 ⟨rfl, hE2⟩; have hE2' := Aside0.mk (hE1'.out.trans hE2); obtain ⟨A2, c2, _, _, a2, _, _, hgl2⟩ := hE2.cells; have hX2 := Aside0.mk (hE2.blk hX1.out hbg.out); have o0'' : w2.cell? ⟨b, 0, none⟩ = some (.string op) := (blk_cell hX2.out 0).trans rfl; clear hE2 o0' o2' a1)
          | (go_at_call 33; (with_reducible refine (truth_calls _ _).mono ?_); rintro e w3 ⟨rfl, ⟨m3, hm3⟩⟩; have hb3 := Aside0.mk hm3; clear hm3)
          | (go_at_call 50; (with_reducible refine (bound_calls w0 _ g vs _ W0 hE2'.out).mono ?_); rintro e w3 ⟨rfl, hE3⟩; have hE3' := Aside0.mk hE3; clear hE3)
          | fail)
        go_ret
        obtain ⟨e1, e2⟩ := Prod.mk.inj hR.out
        rw [← e1, ← e2]
        exact ⟨rfl, (hE2'.out.step (by rw [hb3.out]; exact pw_below_drewN (Below.refl _ _) _))⟩
      · have dy : (ye != 0) = true := by simpa using hy0
        have hy0' := Aside0.mk hy0
        have hR : Aside0 ((0, ye) = (rn, re)) := ⟨by rw [← hres'.out, if_neg (by simp [h8.out, h9.out]), if_pos hy0'.out]⟩
        clear hy0
        go_enter Tryd.func34, Tryd.ntmps34
        go_upto_region 1 with fail
        refine wp_world (fun W hW => ?_)
        obtain ⟨b, hb⟩ : ∃ b, w.heap.size = b := ⟨_, rfl⟩
        obtain ⟨A, c, _, _, _, _, _, hgl⟩ := h'.out.cells
        have hbg : Aside0 (b ≠ g) := ⟨by omega⟩
        have hX : W.heap[w.heap.size]? = some (.cells #[.string op, (.iface t1 u1), (.iface t2 u2)] 50 (0, 0)) := by rw [hW]; exact blk_new _ _
        have hEW : Aside0 (Ev w0 g vs 0 W0 W) := ⟨h'.out.step (by rw [hW]; exact below_alloc (Below.refl _ _) _)⟩
        rw [hb] at hX
        rw [hb]
        have o0 : W.cell? ⟨b, 0, none⟩ = some (.string op) := (blk_cell hX 0).trans rfl
        have o1 : W.cell? ⟨b, 1, none⟩ = some (.iface t1 u1) := (blk_cell hX 1).trans rfl
        have o2 : W.cell? ⟨b, 2, none⟩ = some (.iface t2 u2) := (blk_cell hX 2).trans rfl
        have hX' := Aside0.mk hX
        clear hW hX hgl
        go_upto_region 2 with (first
          | (go_at_call 20; (with_reducible refine (hl'.out _ hEW.out).mono ?_); rintro e w1 ⟨rfl, hE1⟩; have hE1' := Aside0.mk (hEW.out.trans hE1); obtain ⟨A1, c1, _, _, a1, _, _, hgl1⟩ := hE1.cells; have hX1 := Aside0.mk (hE1.blk hX'.out hbg.out); have o0' : w1.cell? ⟨b, 0, none⟩ = some (.string op) := (blk_cell hX1.out 0).trans rfl; have o2' : w1.cell? ⟨b, 2, none⟩ = some (.iface t2 u2) := (blk_cell hX1.out 2).trans rfl; clear hE1)
          | fail)
        clear o0 o1 o2
        go_wp2_with (first
          | (go_at_call 20; (with_reducible refine (hr'.out _ hE1'.out).mono ?_); rintro e w2 ⟨rfl, hE2⟩; have hE2' := Aside0.mk (hE1'.out.trans hE2); obtain ⟨A2, c2, _, _, a2, _, _, hgl2⟩ := hE2.cells; have hX2 := Aside0.mk (hE2.blk hX1.out hbg.out); have o0'' : w2.cell? ⟨b, 0, none⟩ = some (.string op) := (blk_cell hX2.out 0).trans rfl; clear hE2 o0' o2' a1)
          | (go_at_call 33; (with_reducible refine (truth_calls _ _).mono ?_); rintro e w3 ⟨rfl, ⟨m3, hm3⟩⟩; have hb3 := Aside0.mk hm3; clear hm3)
          | (go_at_call 50; (with_reducible refine (bound_calls w0 _ g vs _ W0 hE2'.out).mono ?_); rintro e w3 ⟨rfl, hE3⟩; have hE3' := Aside0.mk hE3; clear hE3)
          | fail)
        go_ret
        obtain ⟨e1, e2⟩ := Prod.mk.inj hR.out
        rw [← e1, ← e2]
        exact ⟨rfl, hE2'.out⟩
    · have dx : (xe != 0) = true := by simpa using hx0
      have hR : Aside0 ((tru (xn != 0), xe) = (rn, re)) := ⟨by rw [← hres'.out, if_pos (Or.inl hx0)]⟩
      clear hx0
      go_enter Tryd.func34, Tryd.ntmps34
      go_upto_region 1 with fail
      refine wp_world (fun W hW => ?_)
      obtain ⟨b, hb⟩ : ∃ b, w.heap.size = b := ⟨_, rfl⟩
      obtain ⟨A, c, _, _, _, _, _, hgl⟩ := h'.out.cells
      have hbg : Aside0 (b ≠ g) := ⟨by omega⟩
      have hX : W.heap[w.heap.size]? = some (.cells #[.string op, (.iface t1 u1), (.iface t2 u2)] 50 (0, 0)) := by rw [hW]; exact blk_new _ _
      have hEW : Aside0 (Ev w0 g vs 0 W0 W) := ⟨h'.out.step (by rw [hW]; exact below_alloc (Below.refl _ _) _)⟩
      rw [hb] at hX
      rw [hb]
      have o0 : W.cell? ⟨b, 0, none⟩ = some (.string op) := (blk_cell hX 0).trans rfl
      have o1 : W.cell? ⟨b, 1, none⟩ = some (.iface t1 u1) := (blk_cell hX 1).trans rfl
      have o2 : W.cell? ⟨b, 2, none⟩ = some (.iface t2 u2) := (blk_cell hX 2).trans rfl
      have hX' := Aside0.mk hX
      clear hW hX hgl
      go_upto_region 2 with (first
        | (go_at_call 20; (with_reducible refine (hl'.out _ hEW.out).mono ?_); rintro e w1 ⟨rfl, hE1⟩; have hE1' := Aside0.mk (hEW.out.trans hE1); obtain ⟨A1, c1, _, _, a1, _, _, hgl1⟩ := hE1.cells; have hX1 := Aside0.mk (hE1.blk hX'.out hbg.out); have o0' : w1.cell? ⟨b, 0, none⟩ = some (.string op) := (blk_cell hX1.out 0).trans rfl; have o2' : w1.cell? ⟨b, 2, none⟩ = some (.iface t2 u2) := (blk_cell hX1.out 2).trans rfl; clear hE1)
        | fail)
      clear o0 o1 o2
      go_wp2_with (first
        | (go_at_call 20; (with_reducible refine (hr'.out _ hE1'.out).mono ?_); rintro e w2 ⟨rfl, hE2⟩; have hE2' := Aside0.mk (hE1'.out.trans hE2); obtain ⟨A2, c2, _, _, a2, _, _, hgl2⟩ := hE2.cells; have hX2 := Aside0.mk (hE2.blk hX1.out hbg.out); have o0'' : w2.cell? ⟨b, 0, none⟩ = some (.string op) := (blk_cell hX2.out 0).trans rfl; clear hE2 o0' o2' a1)
        | (go_at_call 33; (with_reducible refine (truth_calls _ _).mono ?_); rintro e w3 ⟨rfl, ⟨m3, hm3⟩⟩; have hb3 := Aside0.mk hm3; clear hm3)
        | (go_at_call 50; (with_reducible refine (bound_calls w0 _ g vs _ W0 hE2'.out).mono ?_); rintro e w3 ⟨rfl, hE3⟩; have hE3' := Aside0.mk hE3; clear hE3)
        | fail)
      go_ret
      obtain ⟨e1, e2⟩ := Prod.mk.inj hR.out
      rw [← e1, ← e2]
      exact ⟨rfl, (hE1'.out.step (by rw [hb3.out]; exact pw_below_drewN (Below.refl _ _) _))⟩
end Go.Proofs.YtdhlbhkpleoicaaDoor.Exp
