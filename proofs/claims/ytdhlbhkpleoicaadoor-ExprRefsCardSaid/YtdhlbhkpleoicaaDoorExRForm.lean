/- The document's sound, Formed and Eval. -/
import Derived.Test.YtdhlbhkpleoicaaDoorExDocN
import Derived.Test.YtdhlbhkpleoicaaDoorExRName
namespace Go.Proofs.YtdhlbhkpleoicaaDoor.Exp
open Go.RowKit Go.Proofs.YtdhlbhkpleoicaaDoorW.PrintWords Go.Proofs.YtdhlbhkpleoicaaDoorW.PrintLast Go.Proofs.YtdhlbhkpleoicaaDoorW.PrintMore Go.Proofs.YtdhlbhkpleoicaaDoor.PExprEvals
open Frm
set_option linter.unusedVariables false
set_option linter.unusedSimpArgs false
set_option maxHeartbeats 4000000
set_option maxRecDepth 100000
theorem operator_f (s : ByteArray) : tumbrelref04_operator.f s = some (isOp s) := by
  unfold tumbrelref04_operator.f isOp opNames
  simp only [op_plus, op_minus, op_mul, op_less, op_leq, op_eq, op_ne, op_and, op_or, List.any_cons, List.any_nil]
  have e : ∀ c : ByteArray, decide (c = s) = decide (s = c) := fun c => by rw [decide_eq_decide]; exact ⟨fun h => h.symm, fun h => h.symm⟩
  rw [e, e, e, e, e, e, e, e, e]
  show _ = some (decide (s = sPlus) || (decide (s = sMinus) || (decide (s = sMul) || (decide (s = sLess) || (decide (s = sLeq) || (decide (s = sEq) || (decide (s = sNe) || (decide (s = sAnd) || (decide (s = sOr) || false)))))))))
  by_cases h1 : s = sPlus
  · simp [h1]
  by_cases h2 : s = sMinus
  · simp [h2]
  by_cases h3 : s = sMul
  · simp [h3]
  by_cases h4 : s = sLess
  · simp [h4]
  by_cases h5 : s = sLeq
  · simp [h5]
  by_cases h6 : s = sEq
  · simp [h6]
  by_cases h7 : s = sNe
  · simp [h7]
  by_cases h8 : s = sAnd
  · simp [h8]
  by_cases h9 : s = sOr
  · simp [h9]
  simp [h1, h2, h3, h4, h5, h6, h7, h8, h9]
def RsC (e : Ex) : Prop := ∀ (A : Option Addr) (c : Nat) (w : World), Kd.C k24 w A (toN e).f3.length (toN e).f3 → (toN e).f3.length ≤ c → Tabs w →
  Calls Tryd.prog 25 #[.agg #[.int .i64 (toN e).f0, .int .i64 (toN e).f1, .string (toN e).f2, .slice A (toN e).f3.length c]] w fun e' w' => e' = .returned (.bool (rsnd e)) ∧ Below w.heap.size w w'
theorem cells4n {w : World} {b : Nat} {k n : Int} {s : ByteArray} {v : Value} (h : w.heap[b]? = some (.cells #[.int .i64 k, .int .i64 n, .string s, v] 24 (0, 0))) :
    w.cell? ⟨b, 0, none⟩ = some (.int .i64 k) ∧ w.cell? ⟨b, 1, none⟩ = some (.int .i64 n) ∧ w.cell? ⟨b, 2, none⟩ = some (.string s) ∧ w.cell? ⟨b, 3, none⟩ = some v ∧ b < w.heap.size :=
  ⟨(blk_cell h 0).trans rfl, (blk_cell h 1).trans rfl, (blk_cell h 2).trans rfl, (blk_cell h 3).trans rfl, blk_lt h⟩
theorem rd_map (l : List Ex) (i : Nat) (h : i < l.length) : rd_T24 (l.map toN) (i : Int) = toN l[i] := by
  simp [rd_T24, List.getD_eq_getElem?_getD, h]
theorem all_drop (l : List Ex) (i : Nat) (h : i < l.length) : (l.drop i).all rsnd = (rsnd l[i] && (l.drop (i + 1)).all rsnd) := by
  rw [List.drop_eq_getElem_cons h, List.all_cons]
theorem rsound_parts (k n : Int) (s : ByteArray) (l : List Ex) (hl : l.length ≤ 2) (hk : k = 3 ∨ k = 4 ∨ k = 5 ∧ isOp s = true) (ih : ∀ y ∈ l, RsC y) (A : Option Addr) (c : Nat) (w : World) (hC : Kd.C k24 w A (l.map toN).length (l.map toN)) (hc : (l.map toN).length ≤ c) (hT : Tabs w) :
    Calls Tryd.prog 25 #[.agg #[.int .i64 k, .int .i64 n, .string s, .slice A (l.map toN).length c]] w fun e' w' => e' = .returned (.bool (l.all rsnd)) ∧ Below w.heap.size w w' := by
  have hC' := Aside0.mk hC
  have hT' := Aside0.mk hT
  have ih' := Aside0.mk ih
  have hO := Aside0.mk (fun h w => tumbrelref04_operator.calls s true w ((operator_f s).trans (congrArg some h)))
  obtain ⟨m, hm⟩ : ∃ m, l.map toN = m := ⟨_, rfl⟩
  have hml : m.length = l.length := by rw [← hm]; simp
  have hm' := Aside0.mk hm
  rw [hm] at hC' hc ⊢
  clear hC hT ih hm
  have hml' := Aside0.mk hml
  have hm2 : m.length ≤ 2 := by rw [hml]; exact hl
  clear hml
  rcases hk with rfl | rfl | ⟨rfl, ho⟩
  all_goals
    go_enter Tryd.func25, Tryd.ntmps25
    go_upto_region 1 with fail
    refine wp_world (fun W hW => ?_)
    first
      | (have hX : W.heap[w.heap.size]? = some (.cells #[.int .i64 3, .int .i64 n, .string s, .slice A m.length c] 24 (0, 0)) := by rw [hW]; exact blk_new _ _)
      | (have hX : W.heap[w.heap.size]? = some (.cells #[.int .i64 4, .int .i64 n, .string s, .slice A m.length c] 24 (0, 0)) := by rw [hW]; exact blk_new _ _)
      | (have hX : W.heap[w.heap.size]? = some (.cells #[.int .i64 5, .int .i64 n, .string s, .slice A m.length c] 24 (0, 0)) := by rw [hW]; exact blk_new _ _)
    have hBW : Below w.heap.size w W := by rw [hW]; exact below_alloc (Below.refl _ _) _
    obtain ⟨b, hb⟩ : ∃ b, w.heap.size = b := ⟨_, rfl⟩
    have hX' := Aside0.mk hX
    have hBW' := Aside0.mk hBW
    rw [hb] at hX'
    rw [hb]
    have hb' := Aside0.mk hb
    clear hX hBW hW hb
    obtain ⟨x0, x1, x2, x3, xl⟩ := cells4n hX'.out
    have hE : ∀ i, (hi : i < m.length) → ∃ y ∈ l, rd_T24 m (i : Int) = toN y ∧ (l.drop i).all rsnd = (rsnd y && (l.drop (i + 1)).all rsnd) := fun i hi => by
      have hi2 : i < l.length := by rw [← hml'.out]; exact hi
      exact ⟨l[i], List.getElem_mem hi2, by rw [← hm'.out]; exact rd_map l i hi2, all_drop l i hi2⟩
    have hE' := Aside0.mk hE
    clear hE
    go_wp2_with (first
      | (go_at_call 43; refine (hO.out ho _).mono ?_; rintro e w4 ⟨rfl, ⟨m4, hm4⟩⟩; have hb4 : Aside0 (Below W.heap.size W w4) := ⟨by rw [hm4]; exact pw_below_drewN (Below.refl _ _) _⟩; clear hm4; clear x0 x1 x2 x3 xl; obtain ⟨x0, x1, x2, x3, xl⟩ := cells4n (blk_below hX'.out hb4.out))
      | fail)
    go_loopg [37] (m.length + 1) (fun kq v37 w' => ∃ (i : Nat), v37 = .int .i64 (i : Int) ∧ Aside0 (kq + i = m.length + 1) ∧ Aside0 (i ≤ m.length) ∧ Aside0 ((l.drop i).all rsnd = l.all rsnd) ∧ Aside0 (Below W.heap.size W w'))
    case atStart => exact ⟨0, rfl, ⟨by omega⟩, ⟨by omega⟩, ⟨rfl⟩, ⟨by first | exact Below.refl _ _ | exact hb4.out | exact pw_below_drewN hb4.out _ | exact below_drew hb4.out | exact pw_below_drewN (Below.refl _ _) _⟩⟩
    case round =>
      obtain ⟨i, rfl, hk, hi, hx, hB⟩ := hrel
      clear x0 x1 x2 x3 xl
      obtain ⟨x0, x1, x2, x3, xl⟩ := cells4n (blk_below hX'.out hB.out)
      cases gk with
      | zero => exact absurd hk.out (by have := hi.out; omega)
      | succ k1 =>
        by_cases hlt : i < m.length
        · have hd : decide ((i : Int) < (m.length : Int)) = true := decide_eq_true (by omega)
          have hd' : decide (i < m.length) = true := decide_eq_true hlt
          have p1 : 0 ≤ (i : Int) := by omega
          have q1 : (i : Int) < (m.length : Int) := by omega
          obtain ⟨y, hy, hrd, hst⟩ := hE'.out i hlt
          obtain ⟨ad, A3, k3, e1, y0, y1, y2, y3, hk3, hC3⟩ := at_T24 (Kd.C_below hC'.out (below_step hBW'.out hB.out)) (i : Int) p1 q1
          cases e1
          rw [hrd] at y0 y1 y2 y3 hk3 hC3
          rw [show ((i : Int)).toNat = i from by simp] at y0 y1 y2 y3
          have hcall := Aside0.mk (ih'.out y hy A3 k3 _ hC3 hk3 (hT'.out.below (below_step hBW'.out hB.out)))
          have hst' := Aside0.mk (hx.out.symm.trans hst)
          have hlt' := Aside0.mk hlt
          obtain ⟨sb, hsb⟩ : ∃ b, rsnd y = b := ⟨_, rfl⟩
          rw [hsb] at hcall hst'
          clear hy hrd hst hsb hC3
          cases sb with
          | false =>
            have e1 : Aside0 (l.all rsnd = false) := ⟨by rw [hst'.out]; rfl⟩
            go_wp2_with (first
              | (go_at_call 25; (with_reducible refine hcall.out.mono ?_); rintro e w5 ⟨rfl, hb5⟩; have hb5' := Aside0.mk (below_step hB.out hb5); clear hb5)
              | fail)
            go_ret
            exact ⟨by rw [e1.out]; rfl, by have := below_step hBW'.out hb5'.out; first | exact this | (rw [← hb'.out]; exact this)⟩
          | true =>
            have e1 : Aside0 (l.all rsnd = (l.drop (i + 1)).all rsnd) := ⟨by rw [hst'.out]; rfl⟩
            go_wp2_with (first
              | (go_at_call 25; (with_reducible refine hcall.out.mono ?_); rintro e w5 ⟨rfl, hb5⟩; have hb5' := Aside0.mk (below_step hB.out hb5); clear hb5)
              | fail)
            go_roundg k1
            case measure => have := hk.out; omega
            case rel => exact ⟨i + 1, by go_num, ⟨by have := hk.out; have := hml'.out; omega⟩, ⟨by have := hlt'.out; omega⟩, ⟨e1.out.symm⟩, hb5'⟩
        · have hd : decide ((i : Int) < (m.length : Int)) = false := decide_eq_false (by omega)
          have hd' : decide (i < m.length) = false := decide_eq_false hlt
          have hle : l.length ≤ i := by have := hml'.out; omega
          have e1 : Aside0 (l.all rsnd = true) := ⟨by rw [← hx.out, List.drop_of_length_le hle]; rfl⟩
          clear hle
          go_wp2
          go_ret
          exact ⟨by rw [e1.out]; rfl, by have := below_step hBW'.out hB.out; first | exact this | (rw [← hb'.out]; exact this)⟩
theorem rsound_op (n : Int) (s : ByteArray) (len : Nat) (ho : isOp s = false) (A : Option Addr) (c : Nat) (w : World) :
    Calls Tryd.prog 25 #[.agg #[.int .i64 5, .int .i64 n, .string s, .slice A len c]] w fun e' w' => e' = .returned (.bool false) ∧ Below w.heap.size w w' := by
  have hO := Aside0.mk (fun w => tumbrelref04_operator.calls s false w ((operator_f s).trans (congrArg some ho)))
  clear ho
  go_enter Tryd.func25, Tryd.ntmps25
  go_wp2_with (first
    | (go_at_call 43; refine (hO.out _).mono ?_; rintro e w4 ⟨rfl, ⟨m4, hm4⟩⟩; have hb4 : Aside0 (Below w.heap.size w w4) := ⟨by rw [hm4]; exact pw_below_drewN (below_alloc (Below.refl _ _) _) _⟩; clear hm4)
    | fail)
  go_ret
  exact ⟨rfl, hb4.out⟩
theorem rsound_none (n : Int) (s : ByteArray) (len : Nat) (A : Option Addr) (c : Nat) (w : World) :
    Calls Tryd.prog 25 #[.agg #[.int .i64 0, .int .i64 n, .string s, .slice A len c]] w fun e' w' => e' = .returned (.bool false) ∧ Below w.heap.size w w' := by
  go_enter Tryd.func25, Tryd.ntmps25
  go_wp2
  go_ret
  exact ⟨rfl, below_alloc (Below.refl _ _) _⟩
theorem rsound_lit (n : Int) (s : ByteArray) (len : Nat) (A : Option Addr) (c : Nat) (w : World) :
    Calls Tryd.prog 25 #[.agg #[.int .i64 1, .int .i64 n, .string s, .slice A len c]] w fun e' w' => e' = .returned (.bool (decide (0 ≤ n ∧ n ≤ 1000000000))) ∧ Below w.heap.size w w' := by
  by_cases h0 : 0 ≤ n
  · have d0 : decide (0 ≤ n) = true := decide_eq_true h0
    have d0' : decide (n ≥ 0) = true := decide_eq_true h0
    have hE : Aside0 (decide (0 ≤ n ∧ n ≤ 1000000000) = decide (n ≤ 1000000000)) := ⟨by rw [decide_eq_decide]; omega⟩
    rw [hE.out]
    go_enter Tryd.func25, Tryd.ntmps25
    go_wp2
    go_ret
    exact ⟨rfl, below_alloc (Below.refl _ _) _⟩
  · have d0 : decide (0 ≤ n) = false := decide_eq_false h0
    have d0' : decide (n ≥ 0) = false := decide_eq_false h0
    have hE : Aside0 (decide (0 ≤ n ∧ n ≤ 1000000000) = false) := ⟨decide_eq_false (by omega)⟩
    rw [hE.out]
    go_enter Tryd.func25, Tryd.ntmps25
    go_wp2
    go_ret
    exact ⟨rfl, below_alloc (Below.refl _ _) _⟩
theorem rsound_ref (n : Int) (s : ByteArray) (hs : s.size ≤ 1000) (len : Nat) (A : Option Addr) (c : Nat) (w : World) (hT : Tabs w) :
    Calls Tryd.prog 25 #[.agg #[.int .i64 2, .int .i64 n, .string s, .slice A len c]] w fun e' w' => e' = .returned (.bool (isName s)) ∧ Below w.heap.size w w' := by
  have hN := Aside0.mk (fun W (hb : Below w.heap.size w W) => rName_calls s hs W (hT.below hb))
  clear hT
  go_enter Tryd.func25, Tryd.ntmps25
  go_wp2_with (first
    | (go_at_call 42; (with_reducible refine (hN.out _ (by repeat (first | exact Below.refl _ _ | refine below_drew ?_ | refine pw_below_drewN ?_ _ | refine below_alloc ?_ _))).mono ?_); rintro e w1 ⟨rfl, hb1⟩; have hb1' : Aside0 (Below w.heap.size w w1) := ⟨below_step (by repeat (first | exact Below.refl _ _ | refine below_drew ?_ | refine pw_below_drewN ?_ _ | refine below_alloc ?_ _)) hb1⟩; clear hb1)
    | fail)
  go_ret
  exact ⟨rfl, hb1'.out⟩
theorem rsound_tot : ∀ e, short e → RsC e := by
  intro e
  induction e with
  | none => intro _ A c w _ _ _; exact rsound_none _ _ _ A c w
  | lit n => intro _ A c w _ _ _; exact rsound_lit n _ _ A c w
  | ref s => intro hs A c w _ _ hT; exact rsound_ref _ s hs _ A c w hT
  | not x ih =>
    intro hs A c w hC hc hT
    have := rsound_parts 3 0 eB [x] (by simp) (.inl rfl) (by simpa using ih hs) A c w hC hc hT
    have hr : [x].all rsnd = rsnd x := by simp only [List.all_cons, List.all_nil, Bool.and_true]
    rw [hr] at this
    exact this
  | neg x ih =>
    intro hs A c w hC hc hT
    have := rsound_parts 4 0 eB [x] (by simp) (.inr (.inl rfl)) (by simpa using ih hs) A c w hC hc hT
    have hr : [x].all rsnd = rsnd x := by simp only [List.all_cons, List.all_nil, Bool.and_true]
    rw [hr] at this
    exact this
  | bin o l r ih1 ih2 =>
    intro hs A c w hC hc hT
    cases ho : isOp o with
    | false =>
      have hr : rsnd (.bin o l r) = false := by simp only [rsnd, ho, Bool.false_and]
      rw [hr]
      exact rsound_op 0 o _ ho A c w
    | true =>
      have hr : rsnd (.bin o l r) = [l, r].all rsnd := by simp only [rsnd, ho, Bool.true_and, List.all_cons, List.all_nil, Bool.and_true]
      rw [hr]
      exact rsound_parts 5 0 o [l, r] (by simp) (.inr (.inr ⟨rfl, ho⟩)) (by simpa using ⟨ih1 hs.1, ih2 hs.2⟩) A c w hC hc hT
end Go.Proofs.YtdhlbhkpleoicaaDoor.Exp
namespace Go.Proofs.YtdhlbhkpleoicaaDoor.Exp
open Go.RowKit Go.Proofs.YtdhlbhkpleoicaaDoorW.PrintWords Go.Proofs.YtdhlbhkpleoicaaDoorW.PrintLast Go.Proofs.YtdhlbhkpleoicaaDoorW.PrintMore Go.Proofs.YtdhlbhkpleoicaaDoor.PExprEvals
open Frm
set_option linter.unusedVariables false
set_option linter.unusedSimpArgs false
set_option maxHeartbeats 4000000
set_option maxRecDepth 100000
/-- A clean node as a value: A, c where its parts lie. -/
def nv (e : Ex) (A : Option Addr) (c : Nat) : Value := .agg #[.int .i64 (toN e).f0, .int .i64 (toN e).f1, .string (toN e).f2, .slice A (toN e).f3.length c]
theorem rNodes_calls (e : Ex) (A : Option Addr) (c : Nat) (w : World) (hC : Kd.C k24 w A (toN e).f3.length (toN e).f3) (hc : (toN e).f3.length ≤ c) :
    Calls Tryd.prog 16 #[nv e A c] w fun e' w' => e' = .returned (.int .i64 (nd e)) ∧ Below w.heap.size w w' := by
  obtain ⟨K, hK⟩ := nodes_tot e
  exact tumbrelref04_Nodes.calls K _ _ _ A c _ _ w hC hc (hK K (Nat.le_refl _))
theorem rdeep_calls (e : Ex) (ht : tot e ≤ 40) (A : Option Addr) (c : Nat) (w : World) (hC : Kd.C k24 w A (toN e).f3.length (toN e).f3) (hc : (toN e).f3.length ≤ c) :
    Calls Tryd.prog 24 #[nv e A c] w fun e' w' => e' = .returned (.int .i64 ((dep e : Int) + 1)) ∧ Below w.heap.size w w' := by
  obtain ⟨K, hK⟩ := deep_tot e ht
  exact tumbrelref04_deep.calls K _ _ _ A c _ _ w hC hc (hK K (Nat.le_refl _))
theorem rFormed_calls (e : Ex) (hs : short e) (A : Option Addr) (c : Nat) (w : World) (hC : Kd.C k24 w A (toN e).f3.length (toN e).f3) (hc : (toN e).f3.length ≤ c) (hT : Tabs w) :
    Calls Tryd.prog 14 #[nv e A c] w fun e' w' => e' = .returned (.bool (fmd e)) ∧ Below w.heap.size w w' := by
  have hN := Aside0.mk (fun W (hb : Below w.heap.size w W) => rNodes_calls e A c W (Kd.C_below hC hb) hc)
  have hD := Aside0.mk (fun ht W (hb : Below w.heap.size w W) => rdeep_calls e ht A c W (Kd.C_below hC hb) hc)
  have hS := Aside0.mk (fun W (hb : Below w.heap.size w W) => rsound_tot e hs A c W (Kd.C_below hC hb) hc (hT.below hb))
  unfold nv at hN hD ⊢
  have hF := fmd_eq e
  have hnd : nd e = min (tot e : Int) 41 := rfl
  obtain ⟨n, hn⟩ : ∃ n, nd e = n := ⟨_, rfl⟩
  obtain ⟨t, ht⟩ : ∃ t, tot e = t := ⟨_, rfl⟩
  obtain ⟨d, hd⟩ : ∃ d : Int, (dep e : Int) + 1 = d := ⟨_, rfl⟩
  obtain ⟨sb, hsb⟩ : ∃ b, rsnd e = b := ⟨_, rfl⟩
  obtain ⟨fb, hfb⟩ : ∃ b, fmd e = b := ⟨_, rfl⟩
  rw [hn, ht] at hnd
  rw [hfb, ht, hd, hsb, ← hnd] at hF
  rw [hn] at hN
  rw [hd, ht] at hD
  rw [hsb] at hS
  rw [hfb]
  have hF' := Aside0.mk hF
  clear hC hT hs hn hd hsb hfb hF
  obtain ⟨tn, htn⟩ : ∃ tn, toN e = tn := ⟨_, rfl⟩
  rw [htn] at hN hD hS hc ⊢
  clear htn
  obtain ⟨k, m, s, l⟩ := tn
  simp only [] at hN hD hS hc ⊢
  have hnd' := Aside0.mk hnd
  have hc3 : (Aside0 (n ≤ 40) ∧ decide (n ≤ 40) = true ∧ decide (d ≤ 12) = true ∧ Aside0 (fb = sb)) ∨ (Aside0 (n ≤ 40) ∧ decide (n ≤ 40) = true ∧ decide (d ≤ 12) = false ∧ Aside0 (fb = false)) ∨ (Aside0 (n ≤ n) ∧ decide (n ≤ 40) = false ∧ True ∧ Aside0 (fb = false)) := by
    have hF := hF'.out
    by_cases h1 : n ≤ 40
    · rw [decide_eq_true h1] at hF ⊢
      by_cases h2 : d ≤ 12
      · rw [decide_eq_true h2] at hF ⊢
        exact .inl ⟨⟨h1⟩, rfl, rfl, ⟨hF⟩⟩
      · rw [decide_eq_false h2] at hF ⊢
        exact .inr (.inl ⟨⟨h1⟩, rfl, rfl, ⟨hF⟩⟩)
    · rw [decide_eq_false h1] at hF ⊢
      exact .inr (.inr ⟨⟨Int.le_refl _⟩, rfl, trivial, ⟨hF⟩⟩)
  clear hnd
  rcases hc3 with ⟨h1, d1, d2, hE⟩ | ⟨h1, d1, d2, hE⟩ | ⟨h1, d1, d2, hE⟩
  all_goals
    go_enter Tryd.func14, Tryd.ntmps14
    go_wp2_with (first
      | (go_at_call 16; (with_reducible refine (hN.out _ (by repeat (first | exact Below.refl _ _ | refine below_drew ?_ | refine pw_below_drewN ?_ _ | refine below_alloc ?_ _))).mono ?_); rintro e w1 ⟨rfl, hb1⟩; have hb1' : Aside0 (Below w.heap.size w w1) := ⟨below_step (by repeat (first | exact Below.refl _ _ | refine below_drew ?_ | refine pw_below_drewN ?_ _ | refine below_alloc ?_ _)) hb1⟩; have hX1 := blk_below (w := w.alloc _) (blk_new _ _) hb1; have hX1' := Aside0.mk hX1; obtain ⟨x0, x1, x2, x3, xl⟩ := cells4n hX1; clear hb1 hX1)
      | (go_at_call 24; (with_reducible refine (hD.out (by have := hnd'.out; have := h1.out; omega) _ hb1'.out).mono ?_); rintro e w2 ⟨rfl, hb2⟩; have hb2' : Aside0 (Below w.heap.size w w2) := ⟨below_step hb1'.out hb2⟩; clear x0 x1 x2 x3 xl; obtain ⟨x0, x1, x2, x3, xl⟩ := cells4n (blk_below hX1'.out hb2); clear hb2)
      | (go_at_call 25; (with_reducible refine (hS.out _ hb2'.out).mono ?_); rintro e w3 ⟨rfl, hb3⟩; have hb3' : Aside0 (Below w.heap.size w w3) := ⟨below_step hb2'.out hb3⟩; clear hb3)
      | fail)
    go_ret
    exact ⟨by rw [hE.out]; rfl, by first | exact hb3'.out | exact hb2'.out | exact hb1'.out⟩
theorem clean_ok (x : S24) (A : Option Addr) (c : Nat) (w : World) (hC : Kd.C k24 w A x.f3.length x.f3) (hc : x.f3.length ≤ c) :
    Calls Tryd.prog 12 #[.agg #[.int .i64 x.f0, .int .i64 x.f1, .string x.f2, .slice A x.f3.length c]] w fun e w' => ∃ A' c', e = .returned (nv (theirs x) A' c') ∧
      Kd.C k24 w' A' (toN (theirs x)).f3.length (toN (theirs x)).f3 ∧ (toN (theirs x)).f3.length ≤ c' ∧ Below w.heap.size w w' := Clean_calls x A c w hC hc
theorem keep4n {W w' : World} {b : Nat} {k n : Int} {s : ByteArray} {v : Value} (h : W.heap[b]? = some (.cells #[.int .i64 k, .int .i64 n, .string s, v] 24 (0, 0))) (hb : Below W.heap.size W w') :
    w'.cell? ⟨b, 0, none⟩ = some (.int .i64 k) ∧ w'.cell? ⟨b, 1, none⟩ = some (.int .i64 n) ∧ w'.cell? ⟨b, 2, none⟩ = some (.string s) ∧ w'.cell? ⟨b, 3, none⟩ = some v :=
  let ⟨a, c, d, e, _⟩ := cells4n (blk_below h hb)
  ⟨a, c, d, e⟩
end Go.Proofs.YtdhlbhkpleoicaaDoor.Exp
