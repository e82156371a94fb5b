/- ExprLogic: not, and, or go together as they should; what is not asked is nothing to the value: for all expressions and variables. -/
import Derived.Test.YtdhlbhkpleoicaaRows
import Derived.Test.YtdhlbhkpleoicaaOpenNode
import Derived.Test.YtdhlbhkpleoicaaLawLogic
import Derived.Test.YtdhlbhkpleoicaaOpen
import Derived.WalkKit
import Derived.ProofKit
import Derived.OpenShut
import Derived.ShutString
import Derived.ChangeOld
import Derived.Below
import Derived.SizedLaws
import Derived.Deep.Fields
namespace Go.Proofs.Ytdhlbhkpleoicaa.exprLogic
open Go.ChangeShapes Go.WideShapes Go.ChangeAt Go.RowKit Go.Deep Go.Proofs.YtdhlbhkpleoicaaW.PrintWords Go.Proofs.YtdhlbhkpleoicaaW.PrintLast Go.Proofs.Ytdhlbhkpleoicaa.PExprSame Go.Proofs.Ytdhlbhkpleoicaa.Exp
open Go.ChangeMaps (open_string shut_string)
set_option linter.unusedVariables false
theorem own : ownKnob Try.prog.godebug = none := by kernel_rfl
theorem laidOut : laidOutB Try.prog = true := by kernel_rfl
theorem opens_50 : Opn.Opens Try.prog 50 k50 (fun x => (x.f0.size ≤ 140737488351232) ∧ ((Lit.int .i64 x.f1).wf = true)) := by
  intro H enc W base spare held n cs x h hl
  obtain ⟨hlen, hp⟩ := Opn.struct_parts (sz := 2) Try.underlying50 (by kernel_rfl) h hl
  obtain ⟨p0, K0, Q0⟩ : ∃ p, Kd.string.K W p ((cs.drop 0).take 1) ∧ (p.size ≤ 140737488351232) := hp 0 _ rfl (Opn.opens_string Try.underlying9) (by kernel_rfl)
  obtain ⟨p1, K1, Q1⟩ : ∃ p, (Kd.int .i64).K W p ((cs.drop 1).take 1) ∧ ((Lit.int .i64 p).wf = true) := hp 1 _ rfl (Opn.opens_int Try.underlying2) (by kernel_rfl)
  have hK := Opn.K_step K0 (Opn.K_last K1 (by rw [hlen])) rfl
  exact ⟨⟨p0, p1⟩, hK, ⟨Q0, Q1⟩⟩
set_option maxRecDepth 100000 in
theorem lifted (os : Os) (started : os.Started) (H : Type) (enc : TypeId × Value → H) :
    ReturnsInHanded {} Try.checked os 3 .any (Rows.exprLogicSpec.pre6 enc Try.prog Try.f3 Rows.exprLogicRow.domain false) (Rows.exprLogicSpec.post enc Try.prog Try.f3 false true false false) := by
  refine returnsInHanded_of_change_sized (C := Try.checked) own started (by kernel_rfl) Try.func3
    (ChangeSpec.witness6 (enc := enc) (C := Try.checked) false ⟨#[], #[.agg #[.int .i64 0, .int .i64 0, .string ByteArray.empty, .slice none 0 0], .agg #[.int .i64 0, .int .i64 0, .string ByteArray.empty, .slice none 0 0], .slice none 0 0], []⟩ 8 (by kernel_rfl) (by kernel_rfl) (by kernel_rfl) (by kernel_rfl)) ?_
  intro W base args ds gs before hval0 hW hcnd hsz0 _
  have hsz : (DataW.weightsEach Try.prog (Try.f3.params.toList ++ Rows.exprLogicSpec.plain.varTypes Try.prog) (ds ++ gs)).all (· ≤ reachBytes) = true := hsz0
  have hval : ∀ (j : Nat) t v, Try.f3.params[j]? = some t → args[j]? = some v → Value.okWide Try.prog W .any base t v := hval0
  have hW' := hW
  obtain ⟨p, q, hA0, hV, rfl, hfz, hnd⟩ := hW
  have hA : DataW.TrodAll enc Try.prog W 0 (fun _ => true) true Try.f3.params.toList args.toList ds p := hA0
  rw [Try.params3] at hA hval hsz
  obtain ⟨v0, vs0, d0, ds0, p0, q0, hargs, rfl, rfl, h0, r0⟩ := trodAll_cons hA
  obtain ⟨v1, vs1, d1, ds1, p1, q1, rfl, rfl, rfl, h1, r1⟩ := trodAll_cons r0
  obtain ⟨v2, vs2, d2, ds2, p2, q2, rfl, rfl, rfl, h2, r2⟩ := trodAll_cons r1
  obtain ⟨rfl, rfl, rfl⟩ := trodAll_nil r2
  obtain rfl : args = #[v0, v1, v2] := by cases args; simp_all
  obtain ⟨rfl, rfl⟩ := trodVars_none hV
  have k0_ := h0
  have lt0 : ∀ x ∈ p0, x.block < W.heap.size := by obtain ⟨m, hm⟩ := k0_; exact DataW.trod_lt m _ _ _ hm
  obtain ⟨cs0, p0', rfl, hK0, hq0⟩ := Opn.opens_arg_struct Try.underlying24 opens_24 hsz (j := 0) rfl rfl h0 (hval 0 24 v0 rfl rfl)
  have k1_ := h1
  have lt1 : ∀ x ∈ p1, x.block < W.heap.size := by obtain ⟨m, hm⟩ := k1_; exact DataW.trod_lt m _ _ _ hm
  obtain ⟨cs1, p1', rfl, hK1, hq1⟩ := Opn.opens_arg_struct Try.underlying24 opens_24 hsz (j := 1) rfl rfl h1 (hval 1 24 v1 rfl rfl)
  have k2_ := h2
  have lt2 : ∀ x ∈ p2, x.block < W.heap.size := by obtain ⟨m, hm⟩ := k2_; exact DataW.trod_lt m _ _ _ hm
  obtain ⟨a2, len2, cap2, rfl⟩ := okWide_slice Try.underlying25 (hval 2 25 v2 rfl rfl)
  obtain ⟨l2, rfl, hC2, hcap2, hq2⟩ := Opn.opens_arg_slice (Opn.opens_slice (B := 24) Try.underlying25 (by kernel_rfl) (by kernel_rfl) opens_50) hsz (j := 2) rfl rfl h2 rfl
  clear hA0 hval0 hsz0 hsz
  obtain ⟨A0, c0, rfl, lc0, g0⟩ := k24_open hK0
  obtain ⟨A1, c1, rfl, lc1, g1⟩ := k24_open hK1
  refine (logic_calls p0' p1' l2 A0 A1 a2 c0 c1 cap2 W g0 lc0 g1 lc1 hC2 hcap2 (by have := hq2.2; omega)).mono fun e W' ⟨he, bel⟩ => ?_
  subst he
  exact ⟨_, rfl, _, _, _, [], _, [], hW', trodAll_mk1 (shut_bool Try.underlying4 _), (trodAll_cons_mk (Below.trod laidOut (by kernel_rfl) (of_decide_eq_true (by kernel_rfl)) k0_ bel lt0) (trodAll_cons_mk (Below.trod laidOut (by kernel_rfl) (of_decide_eq_true (by kernel_rfl)) k1_ bel lt1) (trodAll_cons_mk (Below.trod laidOut (by kernel_rfl) (of_decide_eq_true (by kernel_rfl)) k2_ bel lt2) trodAll_mk0))), rfl, bel.frame _, fun h => by cases h⟩
theorem over : Rows.exprLogicRow.holds Try.pinned (OpenSpec.ofChange Rows.exprLogicSpec) :=
  OpenClaim.holds_of_wide 3 Try.f3 rfl rfl rfl rfl rfl rfl rfl ⟨rfl, rfl, rfl, rfl, rfl⟩ rfl rfl rfl rfl rfl (by kernel_rfl) Try.func3 (by kernel_rfl)
    (of_decide_eq_true (by kernel_rfl)) (by unfold Func.isWrapper; first | (rw [if_pos (by decide +kernel)]; kernel_rfl) | (rw [if_neg (by decide +kernel)]; exact ⟨rfl, rfl⟩))
    (fun os started H enc _ => lifted os started H enc)
theorem proved : Rows.ExprLogicSaid := over
#print axioms proved
end Go.Proofs.Ytdhlbhkpleoicaa.exprLogic
namespace Go.Proofs.Ytdhlbhkpleoicaa
/-- The row, under a short name, for the claim. -/
theorem exprLogic_holds : Rows.ExprLogicSaid := exprLogic.proved
end Go.Proofs.Ytdhlbhkpleoicaa
