/- OutboxNil: a nil outbox keeps nothing: for all calls. -/
import Derived.Test.YtdglbiafpofeeaaRows
import Derived.Test.YtdglbiafpofeeaaOutNil
import Derived.Test.YtdglbiafpofeeaaOpen
import Derived.WalkKit
import Derived.ProofKit
import Derived.OpenShut
import Derived.ShutString
import Derived.ChangeOld
import Derived.Below
import Derived.SizedLaws
import Derived.Deep.Fields
namespace Go.Proofs.Ytdglbiafpofeeaa.outboxNil
open Go.ChangeShapes Go.WideShapes Go.ChangeAt Go.RowKit Go.Deep Go.Proofs.YtdglbiafpofeeaaW.PrintWords Go.Proofs.YtdglbiafpofeeaaW.PrintLast Go.Proofs.Ytdglbiafpofeeaa.POutboxNil
open Go.ChangeMaps (open_string shut_string)
set_option linter.unusedVariables false
theorem own : ownKnob Try.prog.godebug = none := by kernel_rfl
theorem laidOut : laidOutB Try.prog = true := by kernel_rfl
theorem opens_28 : Opn.Opens Try.prog 28 k28 (fun x => ((Lit.int .i64 x.f0).wf = true) ∧ ((Lit.int .i64 x.f1).wf = true) ∧ ((Lit.int .i64 x.f2).wf = true) ∧ (x.f3.size ≤ 140737488351232) ∧ ((Lit.int .i64 x.f4).wf = true)) := by
  intro H enc W base spare held n cs x h hl
  obtain ⟨hlen, hp⟩ := Opn.struct_parts (sz := 6) Try.underlying28 (by kernel_rfl) h hl
  obtain ⟨p0, K0, Q0⟩ : ∃ p, (Kd.int .i64).K W p ((cs.drop 0).take 1) ∧ ((Lit.int .i64 p).wf = true) := hp 0 _ rfl (Opn.opens_int Try.underlying3) (by kernel_rfl)
  obtain ⟨p1, K1, Q1⟩ : ∃ p, (Kd.int .i64).K W p ((cs.drop 1).take 1) ∧ ((Lit.int .i64 p).wf = true) := hp 1 _ rfl (Opn.opens_int Try.underlying3) (by kernel_rfl)
  obtain ⟨p2, K2, Q2⟩ : ∃ p, (Kd.int .i64).K W p ((cs.drop 2).take 1) ∧ ((Lit.int .i64 p).wf = true) := hp 2 _ rfl (Opn.opens_int Try.underlying3) (by kernel_rfl)
  obtain ⟨p3, K3, Q3⟩ : ∃ p, Kd.string.K W p ((cs.drop 3).take 1) ∧ (p.size ≤ 140737488351232) := hp 3 _ rfl (Opn.opens_string Try.underlying9) (by kernel_rfl)
  obtain ⟨p4, K4, Q4⟩ : ∃ p, (Kd.int .i64).K W p ((cs.drop 4).take 1) ∧ ((Lit.int .i64 p).wf = true) := hp 4 _ rfl (Opn.opens_int Try.underlying3) (by kernel_rfl)
  obtain ⟨p5, K5, Q5⟩ : ∃ p, Kd.bool.K W p ((cs.drop 5).take 1) ∧ True := hp 5 _ rfl (Opn.opens_bool Try.underlying4) (by kernel_rfl)
  have hK := Opn.K_step K0 (Opn.K_step K1 (Opn.K_step K2 (Opn.K_step K3 (Opn.K_step K4 (Opn.K_last K5 (by rw [hlen])) rfl) rfl) rfl) rfl) rfl
  exact ⟨⟨p0, p1, p2, p3, p4, p5⟩, hK, ⟨Q0, Q1, Q2, Q3, Q4⟩⟩
theorem opens_54 : Opn.Opens Try.prog 54 k54 (fun x => ((Lit.int .i64 x.f0).wf = true) ∧ ((Lit.int .i64 x.f1).wf = true) ∧ (((Lit.int .i64 x.f2.f0).wf = true) ∧ ((Lit.int .i64 x.f2.f1).wf = true) ∧ ((Lit.int .i64 x.f2.f2).wf = true) ∧ (x.f2.f3.size ≤ 140737488351232) ∧ ((Lit.int .i64 x.f2.f4).wf = true))) := by
  intro H enc W base spare held n cs x h hl
  obtain ⟨hlen, hp⟩ := Opn.struct_parts (sz := 8) Try.underlying54 (by kernel_rfl) h hl
  obtain ⟨p0, K0, Q0⟩ : ∃ p, (Kd.int .i64).K W p ((cs.drop 0).take 1) ∧ ((Lit.int .i64 p).wf = true) := hp 0 _ rfl (Opn.opens_int Try.underlying3) (by kernel_rfl)
  obtain ⟨p1, K1, Q1⟩ : ∃ p, (Kd.int .i64).K W p ((cs.drop 1).take 1) ∧ ((Lit.int .i64 p).wf = true) := hp 1 _ rfl (Opn.opens_int Try.underlying3) (by kernel_rfl)
  obtain ⟨p2, K2, Q2⟩ : ∃ p, k28.K W p ((cs.drop 2).take 6) ∧ (((Lit.int .i64 p.f0).wf = true) ∧ ((Lit.int .i64 p.f1).wf = true) ∧ ((Lit.int .i64 p.f2).wf = true) ∧ (p.f3.size ≤ 140737488351232) ∧ ((Lit.int .i64 p.f4).wf = true)) := hp 2 _ rfl opens_28 (by kernel_rfl)
  have hK := Opn.K_step K0 (Opn.K_step K1 (Opn.K_last K2 (by rw [hlen])) rfl) rfl
  exact ⟨⟨p0, p1, p2⟩, hK, ⟨Q0, Q1, Q2⟩⟩
set_option maxRecDepth 100000 in
theorem lifted (os : Os) (started : os.Started) (H : Type) (enc : TypeId × Value → H) :
    ReturnsInHanded {} Try.checked os 8 .any (Rows.outboxNilSpec.pre6 enc Try.prog Try.f8 Rows.outboxNilRow.domain false) (Rows.outboxNilSpec.post enc Try.prog Try.f8 false true false false) := by
  refine returnsInHanded_of_change_sized (C := Try.checked) own started (by kernel_rfl) Try.func8
    (ChangeSpec.witness6 (enc := enc) (C := Try.checked) false ⟨#[], #[.agg #[.int .i64 0, .int .i64 0, .int .i64 0, .int .i64 0, .int .i64 0, .string ByteArray.empty, .int .i64 0, .bool false]], []⟩ 8 (by kernel_rfl) (by kernel_rfl) (by kernel_rfl) (by kernel_rfl)) ?_
  intro W base args ds gs before hval0 hW hcnd hsz0 _
  have hsz : (DataW.weightsEach Try.prog (Try.f8.params.toList ++ Rows.outboxNilSpec.plain.varTypes Try.prog) (ds ++ gs)).all (· ≤ reachBytes) = true := hsz0
  have hval : ∀ (j : Nat) t v, Try.f8.params[j]? = some t → args[j]? = some v → Value.okWide Try.prog W .any base t v := hval0
  have hW' := hW
  obtain ⟨p, q, hA0, hV, rfl, hfz, hnd⟩ := hW
  have hA : DataW.TrodAll enc Try.prog W 0 (fun _ => true) true Try.f8.params.toList args.toList ds p := hA0
  rw [Try.params8] at hA hval hsz
  obtain ⟨v0, vs0, d0, ds0, p0, q0, hargs, rfl, rfl, h0, r0⟩ := trodAll_cons hA
  obtain ⟨rfl, rfl, rfl⟩ := trodAll_nil r0
  obtain rfl : args = #[v0] := by cases args; simp_all
  obtain ⟨rfl, rfl⟩ := trodVars_none hV
  have k0_ := h0
  have lt0 : ∀ x ∈ p0, x.block < W.heap.size := by obtain ⟨m, hm⟩ := k0_; exact DataW.trod_lt m _ _ _ hm
  obtain ⟨cs0, p0', rfl, hK0, hq0⟩ := Opn.opens_arg_struct Try.underlying54 opens_54 hsz (j := 0) rfl rfl h0 (hval 0 54 v0 rfl rfl)
  obtain rfl := k54_open hK0
  clear hA0 hval0 hsz0 hsz
  refine (Out.nil_calls _ _ _ _ _ _ _ _ W).mono fun e W' ⟨he, bel⟩ => ?_
  subst he
  exact ⟨_, rfl, _, _, _, [], _, [], hW', trodAll_mk1 (shut_bool Try.underlying4 _), (trodAll_cons_mk (Below.trod laidOut (by kernel_rfl) (of_decide_eq_true (by kernel_rfl)) k0_ bel lt0) trodAll_mk0), rfl, bel.frame _, fun h => by cases h⟩
theorem over : Rows.outboxNilRow.holds Try.pinned (OpenSpec.ofChange Rows.outboxNilSpec) :=
  OpenClaim.holds_of_wide 8 Try.f8 rfl rfl rfl rfl rfl rfl rfl ⟨rfl, rfl, rfl, rfl, rfl⟩ rfl rfl rfl rfl rfl (by kernel_rfl) Try.func8 (by kernel_rfl)
    (of_decide_eq_true (by kernel_rfl)) (by unfold Func.isWrapper; first | (rw [if_pos (by decide +kernel)]; kernel_rfl) | (rw [if_neg (by decide +kernel)]; exact ⟨rfl, rfl⟩))
    (fun os started H enc _ => lifted os started H enc)
theorem proved : Rows.OutboxNilSaid := over
#print axioms proved
end Go.Proofs.Ytdglbiafpofeeaa.outboxNil
namespace Go.Proofs.Ytdglbiafpofeeaa
/-- The row, under a short name, for the claim. -/
theorem outboxNil_holds : Rows.OutboxNilSaid := outboxNil.proved
end Go.Proofs.Ytdglbiafpofeeaa
