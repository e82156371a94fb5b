/- ExprRefs: any expression has the names that the document says; and no other variable is anything to it: the tied card. -/
import Derived.Test.YtdhlbhkpleoicaaDoorRows
import Derived.Test.YtdhlbhkpleoicaaDoorOpenNode
import Derived.Test.YtdhlbhkpleoicaaDoorLawRefs
import Derived.Test.YtdhlbhkpleoicaaDoorExLay
import Derived.Test.YtdhlbhkpleoicaaDoorOpen
import Derived.Test.YtdhlbhkpleoicaaDoorCards
import Derived.Test.YtdhlbhkpleoicaaDoorTie
import Derived.Lib.LaidIn
import Derived.Deep.DeepHandedRow
import Derived.Deep.DeepWitnessRowRef
import Derived.PinnedBridge
import Derived.WalkKit
import Derived.ProofKit
import Derived.OpenShut
import Derived.ShutString
import Derived.ChangeOld
import Derived.Below
import Derived.SizedLaws
import Derived.Deep.Fields
namespace Go.Proofs.YtdhlbhkpleoicaaDoor.exprRefs
open Go.ChangeShapes Go.WideShapes Go.ChangeAt Go.RowKit Go.Deep Go.Proofs.YtdhlbhkpleoicaaDoorW.PrintWords Go.Proofs.YtdhlbhkpleoicaaDoorW.PrintLast Go.Proofs.YtdhlbhkpleoicaaDoor.PExprEvals Go.Proofs.YtdhlbhkpleoicaaDoor.Exp
open Go.ChangeMaps (open_string shut_string)
set_option linter.unusedVariables false
theorem own : ownKnob Tryd.prog.godebug = none := by kernel_rfl
theorem laidOut : laidOutB Tryd.prog = true := by kernel_rfl
theorem opens_46 : Opn.Opens Tryd.prog 46 k46 (fun x => (x.f0.size ≤ 140737488351232) ∧ ((Lit.int .i64 x.f1).wf = true)) := by
  intro H enc W base spare held n cs x h hl
  obtain ⟨hlen, hp⟩ := Opn.struct_parts (sz := 2) Tryd.underlying46 (by kernel_rfl) h hl
  obtain ⟨p0, K0, Q0⟩ : ∃ p, Kd.string.K W p ((cs.drop 0).take 1) ∧ (p.size ≤ 140737488351232) := hp 0 _ rfl (Opn.opens_string Tryd.underlying9) (by kernel_rfl)
  obtain ⟨p1, K1, Q1⟩ : ∃ p, (Kd.int .i64).K W p ((cs.drop 1).take 1) ∧ ((Lit.int .i64 p).wf = true) := hp 1 _ rfl (Opn.opens_int Tryd.underlying2) (by kernel_rfl)
  have hK := Opn.K_step K0 (Opn.K_last K1 (by rw [hlen])) rfl
  exact ⟨⟨p0, p1⟩, hK, ⟨Q0, Q1⟩⟩
/-- The witness: the settled world, the two tables holding what they are laid with. -/
noncomputable def laidWorld (os : Os) : World :=
  let w0 := World.holding Tryd.prog os ⟨#[], #[], []⟩
  let put (h : Array Obj) (g : Nat) (cs : Array Value) : Array Obj := h.modify g fun
    | .cells _ t frozen => .cells cs t frozen
    | o => o
  let h1 := put w0.heap 0 (Lib.firstTab.map fun z => Value.int .u8 z).toArray
  let h2 := put h1 1 ((List.range 16).flatMap fun i => [Value.int .u8 (Lib.accLo i), Value.int .u8 (Lib.accHi i)]).toArray
  { w0 with heap := h2 }
theorem laid_is : Rows.exprRefsRow.laid = [("unicode/utf8.acceptRanges", Lib.acceptData), ("unicode/utf8.first", Lib.firstData)] := by kernel_rfl
theorem laid_met (os : Os) (args : Array Value) : laidMet Tryd.prog Rows.exprRefsRow.laid ((laidWorld os).forCall (fun _ _ => 0) ⟨#[], args, []⟩).memory := by
  rw [laid_is]
  exact (LaidIn.of_run (l := [("unicode/utf8.acceptRanges", Lib.acceptData), ("unicode/utf8.first", Lib.firstData)]) [0, 1] 8 (by kernel_rfl) (by kernel_rfl) (by kernel_rfl) (by kernel_rfl)).met
theorem witness_row (os : Os) {H : Type} (enc : TypeId × Value → H) :
    (OpenSpec.ofChange Rows.exprRefsSpec).preRow enc Tryd.prog Tryd.f5 Rows.exprRefsRow.domain false Rows.exprRefsRow.laid ((laidWorld os).forCall (fun _ _ => 0) ⟨#[], #[.agg #[.int .i64 0, .int .i64 0, .string ByteArray.empty, .slice none 0 0], .slice none 0 0], []⟩).memory #[.agg #[.int .i64 0, .int .i64 0, .string ByteArray.empty, .slice none 0 0], .slice none 0 0] := by
  have hw : (DataW.whole enc Tryd.prog ((laidWorld os).forCall (fun _ _ => 0) ⟨#[], #[.agg #[.int .i64 0, .int .i64 0, .string ByteArray.empty, .slice none 0 0], .slice none 0 0], []⟩).memory Tryd.f5.params.toList (OpenSpec.ofChange Rows.exprRefsSpec).vars false (#[.agg #[.int .i64 0, .int .i64 0, .string ByteArray.empty, .slice none 0 0], .slice none 0 0] : Array Value).toList 8).map (fun x => (x.1, x.2.1)) =
      some ([.agg [.lit (.int .i64 0), .lit (.int .i64 0), .lit (.string []), .nil], .nil], []) := by kernel_rfl
  obtain ⟨⟨x1, x2, x3⟩, hx, hx1⟩ := Option.map_eq_some_iff.1 hw
  simp only [Prod.mk.injEq] at hx1
  obtain ⟨rfl, rfl⟩ := hx1
  exact OpenSpec.preRow_of_cond 8 hx (by kernel_rfl) (fun k hk => by cases hk) (by kernel_rfl) (laid_met os _)
theorem tabs {W : World} (hL : laidMet Tryd.prog Rows.exprRefsRow.laid W) : Exp.Tabs W := by
  rw [laid_is] at hL
  exact utf8Tabs_of_reads { Exp.layU with } Exp.extraU (Lib.laidMet.reads hL (.tail _ (.head _))) (Lib.laidMet.reads hL (.head _))
set_option maxRecDepth 100000 in
set_option maxHeartbeats 2000000 in
theorem contract (H : Type) (enc : TypeId × Value → H) (W : World) (base : Nat) (args : Array Value) (ds gs : List (DataW H)) (before : List MemPlace)
    (hval0 : ∀ (j : Nat) t v, Tryd.f5.params[j]? = some t → args[j]? = some v → Value.okWide Tryd.prog W .any base t v)
    (hW : DataW.Whole enc Tryd.prog Tryd.f5.params.toList Rows.exprRefsSpec.vars false W args.toList ds gs before)
    (hsz0 : (DataW.weightsEach Tryd.prog (Tryd.f5.params.toList ++ Rows.exprRefsSpec.plain.varTypes Tryd.prog) (ds ++ gs)).all (· ≤ reachBytes) = true) (hL : laidMet Tryd.prog Rows.exprRefsRow.laid W) :
    Calls Tryd.prog 5 args W fun e W' => ∃ v, e = .returned v ∧ Rows.exprRefsSpec.post enc Tryd.prog Tryd.f5 false true false false W args v W' := by
  have htab := tabs hL
  have hsz : (DataW.weightsEach Tryd.prog (Tryd.f5.params.toList ++ Rows.exprRefsSpec.plain.varTypes Tryd.prog) (ds ++ gs)).all (· ≤ reachBytes) = true := hsz0
  have hval : ∀ (j : Nat) t v, Tryd.f5.params[j]? = some t → args[j]? = some v → Value.okWide Tryd.prog W .any base t v := hval0
  have hW' := hW
  obtain ⟨p, q, hA0, hV, rfl, hfz, hnd⟩ := hW
  have hA : DataW.TrodAll enc Tryd.prog W 0 (fun _ => true) true Tryd.f5.params.toList args.toList ds p := hA0
  rw [Tryd.params5] at hA hval hsz
  obtain ⟨v0, vs0, d0, ds0, p0, q0, hargs, rfl, rfl, h0, r0⟩ := trodAll_cons hA
  obtain ⟨v1, vs1, d1, ds1, p1, q1, rfl, rfl, rfl, h1, r1⟩ := trodAll_cons r0
  obtain ⟨rfl, rfl, rfl⟩ := trodAll_nil r1
  obtain rfl : args = #[v0, v1] := by cases args; simp_all
  obtain ⟨rfl, rfl⟩ := trodVars_none hV
  have k0_ := h0
  have lt0 : ∀ x ∈ p0, x.block < W.heap.size := by obtain ⟨m, hm⟩ := k0_; exact DataW.trod_lt m _ _ _ hm
  obtain ⟨cs0, p0', rfl, hK0, hq0⟩ := Opn.opens_arg_struct Tryd.underlying24 opens_24 hsz (j := 0) rfl rfl h0 (hval 0 24 v0 rfl rfl)
  have k1_ := h1
  have lt1 : ∀ x ∈ p1, x.block < W.heap.size := by obtain ⟨m, hm⟩ := k1_; exact DataW.trod_lt m _ _ _ hm
  obtain ⟨a1, len1, cap1, rfl⟩ := okWide_slice Tryd.underlying25 (hval 1 25 v1 rfl rfl)
  obtain ⟨l1, rfl, hC1, hcap1, hq1⟩ := Opn.opens_arg_slice (Opn.opens_slice (B := 24) Tryd.underlying25 (by kernel_rfl) (by kernel_rfl) opens_46) hsz (j := 1) rfl rfl h1 rfl
  clear hA0 hval0 hsz0 hsz
  obtain ⟨A0, c0, rfl, lc0, g0⟩ := k24_open hK0
  refine (refs_calls p0' l1 A0 a1 c0 cap1 W g0 lc0 hC1 hcap1 (by have := hq1.2; omega) htab).mono fun e W' ⟨he, bel⟩ => ?_
  subst he
  exact ⟨_, rfl, _, _, _, [], _, [], hW', trodAll_mk1 (shut_bool Tryd.underlying4 _), (trodAll_cons_mk (Below.trod laidOut (by kernel_rfl) (of_decide_eq_true (by kernel_rfl)) k0_ bel lt0) (trodAll_cons_mk (Below.trod laidOut (by kernel_rfl) (of_decide_eq_true (by kernel_rfl)) k1_ bel lt1) trodAll_mk0)), rfl, bel.frame _, fun h => by cases h⟩
set_option maxRecDepth 100000 in
set_option maxHeartbeats 2000000 in
theorem lifted (os : Os) (started : os.Started) (H : Type) (enc : TypeId × Value → H) (F : Stop.Interp) :
    ReturnsInHanded {} Tryd.checked os 5 .any ((OpenSpec.ofChange Rows.exprRefsSpec).preRow enc Tryd.prog Tryd.f5 Rows.exprRefsRow.domain false Rows.exprRefsRow.laid) (((OpenSpec.ofChange Rows.exprRefsSpec).at F).post enc Tryd.prog Tryd.f5 false true false false) := by
  refine returnsInHanded_of_row (C := Tryd.checked) (s := OpenSpec.ofChange Rows.exprRefsSpec) own started (by kernel_rfl) Tryd.func5
    (witness_row_atRef (enc := enc) (C := Tryd.checked) false (laidWorld os) #[.agg #[.int .i64 0, .int .i64 0, .string ByteArray.empty, .slice none 0 0], .slice none 0 0] rfl (by kernel_rfl) (by kernel_rfl) (by kernel_rfl) (witness_row os enc)) ?_
  intro W base args ds gs before hval hW _ _ hsz hL _ _
  exact contract H enc W base args ds gs before hval hW hsz hL
theorem said : Rows.ExprRefsSaid :=
  OpenClaim.holds_of_cond 5 Tryd.f5 rfl rfl rfl rfl rfl rfl rfl ⟨rfl, rfl, rfl, rfl, rfl⟩ rfl rfl rfl rfl rfl (by kernel_rfl) Tryd.func5 (by kernel_rfl)
    (of_decide_eq_true (by kernel_rfl)) (by unfold Func.isWrapper; first | (rw [if_pos (by decide +kernel)]; kernel_rfl) | (rw [if_neg (by decide +kernel)]; exact ⟨rfl, rfl⟩))
    (fun os started H enc _ F => by rw [OpenClaim.pre_eq_preRow]; exact lifted os started H enc F)
theorem plain (f : FuncId) (fn : Func) (hf : Tryd.pinned.checked.prog.funcNamed "tumbrel/tumbrellaw04.ExprRefs" = some f) (hfn : Tryd.pinned.checked.prog.funcs[f]? = some fn) :
    true = Tryd.pinned.checked.prog.looks [] ∧ ∀ (j : Nat) t, fn.params[j]? = some t → Tryd.pinned.checked.prog.wantsStandIn t = false := by
  obtain rfl : f = 5 := Option.some.inj ((show Tryd.prog.funcNamed "tumbrel/tumbrellaw04.ExprRefs" = some 5 by kernel_rfl).symm.trans hf) |>.symm
  obtain rfl : fn = Tryd.f5 := (Option.some.inj (Tryd.func5.symm.trans hfn)).symm
  refine ⟨by kernel_rfl, fun j t ht => ?_⟩
  rw [Tryd.params5] at ht
  have hm := Array.mem_of_getElem? ht
  simp only [List.mem_toArray, List.mem_cons, List.not_mem_nil, or_false] at hm
  rcases hm with rfl | rfl
  · exact (show Tryd.prog.wantsStandIn 24 = false by kernel_rfl)
  · exact (show Tryd.prog.wantsStandIn 25 = false by kernel_rfl)
/-- The card. -/
theorem card : Rows.ExprRefsCardSaid :=
  Claim7.holds_tied_plain_at .later [] _ _ _ _ said (fun _ h => by cases h) (by kernel_rfl) (fun _ h => by cases h) exprRefs_row_tie rfl ⟨rfl, rfl⟩ (by kernel_rfl) rfl plain (by kernel_rfl)
#print axioms card
end Go.Proofs.YtdhlbhkpleoicaaDoor.exprRefs
namespace Go.Proofs.YtdhlbhkpleoicaaDoor
/-- The card, under a short name, for the claim. -/
theorem exprRefs_holds : Rows.ExprRefsCardSaid := exprRefs.card
end Go.Proofs.YtdhlbhkpleoicaaDoor
