/- The names of an expression, gathered in a map by a closure that calls itself. -/
import Derived.Test.YtdhlbhkpleoicaaDoorExNames
import Derived.Test.YtdhlbhkpleoicaaDoorExSound2
import Derived.Test.YtdhlbhkpleoicaaDoorAmap
namespace Go.Proofs.YtdhlbhkpleoicaaDoor.Exp
open Go.RowKit Go.Proofs.YtdhlbhkpleoicaaDoorW.PrintWords Go.Proofs.YtdhlbhkpleoicaaDoorW.PrintLast Go.Proofs.YtdhlbhkpleoicaaDoorW.PrintMore Go.Proofs.YtdhlbhkpleoicaaDoor.PExprEvals
open Amap Frm
set_option linter.unusedVariables false
set_option linter.unusedSimpArgs false
set_option maxRecDepth 100000
def sk (x : ByteArray) : Value := .string x
def bv (b : Bool) : Value := .bool b
def domS (x : ByteArray) : Prop := x.size ≤ 1000
theorem domS_max {x : ByteArray} (h : domS x) : x.size ≤ maxLen := by
  have : (1000 : Nat) ≤ maxLen := by decide
  unfold domS at h
  omega
theorem encS : Enc Tryd.prog 9 sk domS where
  law := Go.Maps.string_keyed Tryd.underlying9
  key := fun {x} hx => ⟨_, Go.WideMaps.keyOf_string_mk Tryd.underlying9 (domS_max hx)⟩
  inj := by
    intro x y h
    unfold sk at h
    injection h
theorem keys_put : ∀ (m : List (ByteArray × Bool)) (s : ByteArray) (b : Bool), (mput m s b).map (·.1) = addk (m.map (·.1)) s := by
  intro m s b
  induction m with
  | nil => rfl
  | cons p m ih =>
    obtain ⟨k, v⟩ := p
    unfold addk has at ih ⊢
    by_cases h : k = s
    · simp [mput, h]
    · simp only [mput, if_neg h, List.map_cons, List.any_cons, decide_eq_false h, Bool.false_or] at ih ⊢
      rw [ih]
      split <;> rfl
theorem nms_ops (x : Ex) (h : ∀ s, x ≠ .ref s) : nms x = (ops x).flatMap nms := by
  cases x <;> simp [nms, ops]
  exact absurd rfl (h _)
theorem ta_ref_not (x : Ex) (h : ∀ s, x ≠ .ref s) (W : World) : (Instr.typeAssert (enc x) 33 58 true).run Tryd.prog W = .ok (.tuple #[.agg #[.string ⟨#[]⟩], .bool false]) W := by
  cases x with
  | none => exact ta_nil_53 W
  | lit n => exact ta_47_53 _ W
  | ref s => exact absurd rfl (h s)
  | not x => exact ta_35_53 _ W
  | neg x => exact ta_54_53 _ W
  | bin o l r => exact ta_33_53 _ W
def shortN : Ex → Prop
  | .ref s => s.size ≤ 1000
  | .not x => shortN x
  | .neg x => shortN x
  | .bin _ l r => shortN l ∧ shortN r
  | _ => True
theorem shortN_ops {x y : Ex} (h : shortN x) (hy : y ∈ ops x) : shortN y := by
  cases x <;> simp [ops] at hy
  · subst hy; exact h
  · subst hy; exact h
  · rcases hy with rfl | rfl
    · exact h.1
    · exact h.2
theorem flat_take {l : List Ex} {k : Nat} (h : k < l.length) (K : List ByteArray) : ((l.take (k + 1)).flatMap nms).foldl addk K = (nms (rdOf Ex.none l (k : Int))).foldl addk (((l.take k).flatMap nms).foldl addk K) := by
  rw [List.take_succ_eq_append_getElem h, List.flatMap_append, List.foldl_append]
  simp [rdOf, List.getD_eq_getElem?_getD, h]
/-- The captured variables: the map's, the function's own. -/
def Cap (w : World) (b p3 p4 : Nat) : Prop := w.heap[p3]? = some (.cells #[.map (some b)] 64 (0, 0)) ∧ w.heap[p4]? = some (.cells #[.func (.func 27) #[] #[.pointer (some ⟨p3, 0, none⟩), .pointer (some ⟨p4, 0, none⟩)]] 65 (0, 0))
theorem Cap.fr {w w1 : World} {b p3 p4 base : Nat} (h : Cap w b p3 p4) (f : Fr [] true base w w1) : Cap w1 b p3 p4 := ⟨f.same _ _ h.1 (by simp [Still]), f.same _ _ h.2 (by simp [Still])⟩
def WalkC (base : Nat) (x : Ex) : Prop := ∀ (b p3 p4 : Nat) (m : List (ByteArray × Bool)) (w : World), base ≤ w.heap.size → base ≤ b → Cap w b p3 p4 → MapIs sk bv domS w b m →
  Calls Tryd.prog 27 #[enc x, .pointer (some ⟨p3, 0, none⟩), .pointer (some ⟨p4, 0, none⟩)] w fun e w' => e = .returned (.tuple #[]) ∧ Fr [] true base w w' ∧ ∃ m', MapIs sk bv domS w' b m' ∧ m'.map (·.1) = (nms x).foldl addk (m.map (·.1))
attribute [local go_sem] ta_nil_35 ta_35_35 ta_54_35 ta_33_35 ta_47_35 ta_53_35 ta_nil_54 ta_35_54 ta_54_54 ta_33_54 ta_47_54 ta_53_54 ta_nil_33 ta_35_33 ta_54_33 ta_33_33 ta_47_33 ta_53_33 ta_nil_47 ta_35_47 ta_54_47 ta_33_47 ta_47_47 ta_53_47 ta_nil_53 ta_35_53 ta_54_53 ta_33_53 ta_47_53 ta_53_53
theorem fr_put {base b : Nat} {w W w5 : World} {m : List (ByteArray × Bool)} (f : Fr [] true base w W) (hm : MapIs sk bv domS W b m) (hb : base ≤ b) (hbW : base ≤ W.heap.size) (hg : W.grownBy w5 (some b)) : Fr [] true base w w5 :=
  f.grown hg hbW (fun g e => ⟨by cases e; exact hb, fun o ho hs => by
    cases e
    obtain ⟨es, c, h, _⟩ := hm
    rw [h] at ho
    cases ho
    cases hs⟩)
set_option maxHeartbeats 4000000 in
theorem walk_ref (base : Nat) (s : ByteArray) (hs : s.size ≤ 1000) : WalkC base (.ref s) := by
  intro b p3 p4 m w hbw hb hcap hm
  have c3 : w.cell? ⟨p3, 0, none⟩ = some (.map (some b)) := (blk_cell hcap.1 0).trans rfl
  have l3 : p3 < w.heap.size := blk_lt hcap.1
  have hO : Aside0 (∀ W, Calls Tryd.prog 28 #[.iface 58 (.agg #[.string s])] W fun e w' => ∃ v, e = .returned v ∧ Kd.R kEx 33 w' W.heap.size (fun _ => True) v [] ∧ Below W.heap.size W w') := ⟨fun W => operands_calls (.ref s) W⟩
  obtain ⟨W1, hW1⟩ : ∃ W1, w.alloc (.cells #[.string s] 58) = W1 := ⟨_, rfl⟩
  have hB1 : Below w.heap.size w W1 := by rw [← hW1]; exact below_alloc (Below.refl _ _) _
  have hm1 : MapIs sk bv domS W1 b m := hm.move (hB1.block b hm.lt)
  obtain ⟨w5, hrun, hm5, hg5⟩ := hm1.update encS Tryd.underlying64 (show domS s from hs) true
  have hf5 := Aside0.mk (fr_put (Fr.of_below hbw hB1 [] true) hm1 hb (by have := hB1.size; omega) hg5)
  have hm5' := Aside0.mk hm5
  have hrun' := Aside0.mk hrun
  have hW1' := Aside0.mk hW1
  clear hm hcap hs hm1 hB1 hm5 hg5 hrun hW1
  unfold enc
  go_enter Tryd.func27, Tryd.ntmps27
  go_wp2_with (first
    | (at_mapUpdate; rw [hW1'.out]; refine wpList_update_run rfl _ _ _ 64 rfl (.map (some b)) (.string s) (.bool true) rfl rfl rfl (R := fun z => w5 = z) ⟨w5, hrun'.out, rfl⟩ ?_; rintro z rfl)
    | (go_at_call 28; (with_reducible refine (hO.out _).mono ?_); rintro e w1 ⟨v, rfl, hR, hb1⟩; obtain ⟨A, c, rfl, hc, hC⟩ := Kd.R_reads hR; have hb1' := Aside0.mk hb1; simp only [List.length_nil] at hc; clear hR hC hb1)
    | fail)
  go_loopg [20] 1 (fun kq v20 w' => v20 = .int .i64 0 ∧ Aside0 (kq = 1) ∧ w' = w1)
  case atStart => exact ⟨rfl, ⟨rfl⟩, rfl⟩
  case round =>
    obtain ⟨rfl, hk, rfl⟩ := hrel
    cases gk with
    | zero => exact absurd hk.out (by omega)
    | succ k1 =>
      go_wp2
      go_end0
      have hf := hf5.out
      have hb := hb1'.out
      exact ⟨rfl, hf.trans (Fr.of_below (Nat.le_trans hbw hf.below.size) hb [] true), _, hm5'.out.move (hb.block b hm5'.out.lt), keys_put m s true⟩
set_option maxHeartbeats 4000000 in
theorem walk_else (base : Nat) (x : Ex) (hx : ∀ s, x ≠ .ref s) (ih : ∀ y ∈ ops x, WalkC base y) : WalkC base x := by
  intro b p3 p4 m w hbw hb hcap hm
  have hta := fun W => ta_ref_not x hx W
  have ih' := Aside0.mk ih
  have hcap' := Aside0.mk hcap
  have hm' := Aside0.mk hm
  have hn := Aside0.mk (nms_ops x hx)
  have hO := Aside0.mk (fun W => operands_calls x W)
  have hll := ops_len x
  obtain ⟨l, hl⟩ : ∃ l, ops x = l := ⟨_, rfl⟩
  rw [hl] at ih' hn hO hll
  clear hcap hm ih hx hl
  go_enter Tryd.func27, Tryd.ntmps27
  go_wp2_with (first
    | (go_at_call 28; (with_reducible refine (hO.out _).mono ?_); rintro e w1 ⟨v, rfl, hR, hb1⟩; have hR' := Aside0.mk hR; obtain ⟨A, c, rfl, hc, hC⟩ := Kd.R_reads hR; have hf1 : Aside0 (Fr [] true base w w1) := ⟨Fr.of_below hbw (below_step (by repeat (first | exact Below.refl _ _ | refine below_alloc ?_ _)) hb1) [] true⟩; have hm1 : Aside0 (MapIs sk bv domS w1 b m) := ⟨hm'.out.move ((below_step (by repeat (first | exact Below.refl _ _ | refine below_alloc ?_ _)) hb1).block b hm'.out.lt)⟩; clear hR hC hb1)
    | fail)
  go_loopg [20] (l.length + 1) (fun kq v20 w' => ∃ (k : Nat) (m' : List (ByteArray × Bool)), v20 = .int .i64 (k : Int) ∧ Aside0 (kq + k = l.length + 1) ∧ Aside0 (k ≤ l.length) ∧ Aside0 (MapIs sk bv domS w' b m') ∧ Aside0 (m'.map (·.1) = ((l.take k).flatMap nms).foldl addk (m.map (·.1))) ∧ Aside0 (Fr [] true base w1 w'))
  case atStart => exact ⟨0, m, rfl, ⟨by omega⟩, ⟨by omega⟩, hm1, ⟨rfl⟩, ⟨Fr.refl _ _ _ _⟩⟩
  case round =>
    obtain ⟨k, m', rfl, hk, hkl, hm2, hkeys, hF⟩ := hrel
    by_cases hlt : k < l.length
    · have hdd : decide ((k : Int) < (l.length : Int)) = true := decide_eq_true (by omega)
      have hdd' : decide (k < l.length) = true := decide_eq_true hlt
      cases gk with
      | zero => exact absurd hk.out (by omega)
      | succ k1 =>
        have hlt' := Aside0.mk hlt
        have p1 : 0 ≤ (k : Int) := by omega
        have q1 : (k : Int) < (l.length : Int) := by omega
        have hRw := R_fr hR'.out hF.out (by simp)
        obtain ⟨_, _, e0, _, hCw⟩ := Kd.R_reads hRw
        cases e0
        obtain ⟨ad, e1, hx⟩ := at_ex hCw (k : Int) p1 q1
        cases e1
        rw [show ((k : Int)).toNat = k from by simp] at hx
        have hft := Aside0.mk (flat_take hlt (m.map (·.1)))
        have hmem : rdOf Ex.none l (k : Int) ∈ l := by
          simp only [rdOf, Int.toNat_natCast, List.getD_eq_getElem?_getD, List.getElem?_eq_getElem hlt, Option.getD_some]
          exact List.getElem_mem hlt
        have hcw : Cap wr b p3 p4 := (hcap'.out.fr hf1.out).fr hF.out
        have c4 : wr.cell? ⟨p4, 0, none⟩ = some (.func (.func 27) #[] #[.pointer (some ⟨p3, 0, none⟩), .pointer (some ⟨p4, 0, none⟩)]) := (blk_cell hcw.2 0).trans rfl
        have l4 : p4 < wr.heap.size := blk_lt hcw.2
        have hcall := Aside0.mk (ih'.out _ hmem b p3 p4 m' wr (Nat.le_trans hbw (Nat.le_trans hf1.out.below.size hF.out.below.size)) hb hcw hm2.out)
        obtain ⟨y, hy⟩ : ∃ y, rdOf Ex.none l (k : Int) = y := ⟨_, rfl⟩
        rw [hy] at hx hft hcall
        clear hy hmem hRw hCw hcw hlt
        go_wp2_with (first
          | (go_at_call 27; (with_reducible refine hcall.out.mono ?_); rintro e w4 ⟨rfl, hf4, m4, hm4, hk4⟩; have hf4' := Aside0.mk (hF.out.trans hf4); have hm4' := Aside0.mk hm4; have hk4' : Aside0 (m4.map (·.1) = ((l.take (k + 1)).flatMap nms).foldl addk (m.map (·.1))) := ⟨by rw [hk4, hkeys.out, hft.out]⟩; clear hf4 hm4 hk4)
          | fail)
        go_roundg k1
        case measure => have := hk.out; omega
        case rel => exact ⟨k + 1, m4, by go_num, ⟨by have := hk.out; omega⟩, ⟨by have := hlt'.out; omega⟩, hm4', hk4', hf4'⟩
    · have hdd : decide ((k : Int) < (l.length : Int)) = false := decide_eq_false (by omega)
      have hdd' : decide (k < l.length) = false := decide_eq_false hlt
      have hkk : k = l.length := by have := hkl.out; omega
      subst hkk
      go_wp2
      go_end0
      refine ⟨rfl, hf1.out.trans hF.out, m', hm2.out, ?_⟩
      rw [hkeys.out, List.take_length, hn.out]
theorem walk_tot (base : Nat) : ∀ (d : Nat) (x : Ex), dep x < d → shortN x → WalkC base x
  | 0, x, h, _ => by omega
  | d + 1, x, h, hs => by
    by_cases hx : ∀ s, x ≠ .ref s
    · exact walk_else base x hx (fun y hy => walk_tot base d y (by have := dep_ops hy; omega) (shortN_ops hs hy))
    · cases x with
      | ref s => exact walk_ref base s hs
      | none => exact absurd (fun s e => by cases e) hx
      | lit n => exact absurd (fun s e => by cases e) hx
      | not y => exact absurd (fun s e => by cases e) hx
      | neg y => exact absurd (fun s e => by cases e) hx
      | bin o l r => exact absurd (fun s e => by cases e) hx
end Go.Proofs.YtdhlbhkpleoicaaDoor.Exp
