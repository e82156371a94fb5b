/- TimersPlay: whatever is set, stopped and taken, each answer is the document's: for all scripts. -/
import Derived.Test.YtdfghndcengkaaaRows
import Derived.Test.YtdfghndcengkaaaTmPlayLaw
import Derived.Test.YtdfghndcengkaaaOpen
import Derived.WalkKit
import Derived.ProofKit
import Derived.OpenShut
import Derived.ShutString
import Derived.ChangeOld
import Derived.Below
import Derived.SizedLaws
import Derived.Deep.Fields
namespace Go.Proofs.Ytdfghndcengkaaa.timersPlay
open Go.ChangeShapes Go.WideShapes Go.ChangeAt Go.RowKit Go.Deep Go.Proofs.YtdfghndcengkaaaW.PrintWords Go.Proofs.YtdfghndcengkaaaW.PrintLast Go.Proofs.Ytdfghndcengkaaa.PTimersPlay
open Go.ChangeMaps (open_string shut_string)
set_option linter.unusedVariables false
theorem own : ownKnob Try.prog.godebug = none := by kernel_rfl
theorem laidOut : laidOutB Try.prog = true := by kernel_rfl
theorem opens_35 : Opn.Opens Try.prog 35 k35 (fun x => ((Lit.int .i64 x.f0).wf = true) ∧ (x.f1.size ≤ 140737488351232) ∧ ((Lit.int .i64 x.f2).wf = true)) := by
  intro H enc W base spare held n cs x h hl
  obtain ⟨hlen, hp⟩ := Opn.struct_parts (sz := 3) Try.underlying35 (by kernel_rfl) h hl
  obtain ⟨p0, K0, Q0⟩ : ∃ p, (Kd.int .i64).K W p ((cs.drop 0).take 1) ∧ ((Lit.int .i64 p).wf = true) := hp 0 _ rfl (Opn.opens_int Try.underlying3) (by kernel_rfl)
  obtain ⟨p1, K1, Q1⟩ : ∃ p, Kd.string.K W p ((cs.drop 1).take 1) ∧ (p.size ≤ 140737488351232) := hp 1 _ rfl (Opn.opens_string Try.underlying9) (by kernel_rfl)
  obtain ⟨p2, K2, Q2⟩ : ∃ p, (Kd.int .i64).K W p ((cs.drop 2).take 1) ∧ ((Lit.int .i64 p).wf = true) := hp 2 _ rfl (Opn.opens_int Try.underlying2) (by kernel_rfl)
  have hK := Opn.K_step K0 (Opn.K_step K1 (Opn.K_last K2 (by rw [hlen])) rfl) rfl
  exact ⟨⟨p0, p1, p2⟩, hK, ⟨Q0, Q1, Q2⟩⟩
set_option maxRecDepth 100000 in
theorem lifted (os : Os) (started : os.Started) (H : Type) (enc : TypeId × Value → H) :
    ReturnsInHanded {} Try.checked os 3 .any (Rows.timersPlaySpec.pre6 enc Try.prog Try.f3 Rows.timersPlayRow.domain false) (Rows.timersPlaySpec.post enc Try.prog Try.f3 false true false false) := by
  refine returnsInHanded_of_change_sized (C := Try.checked) own started (by kernel_rfl) Try.func3
    (ChangeSpec.witness6 (enc := enc) (C := Try.checked) false ⟨#[], #[.slice none 0 0, .bool false], []⟩ 8 (by kernel_rfl) (by kernel_rfl) (by kernel_rfl) (by kernel_rfl)) ?_
  intro W base args ds gs before hval0 hW hcnd hsz0 _
  have hsz : (DataW.weightsEach Try.prog (Try.f3.params.toList ++ Rows.timersPlaySpec.plain.varTypes Try.prog) (ds ++ gs)).all (· ≤ reachBytes) = true := hsz0
  have hval : ∀ (j : Nat) t v, Try.f3.params[j]? = some t → args[j]? = some v → Value.okWide Try.prog W .any base t v := hval0
  have hW' := hW
  obtain ⟨p, q, hA0, hV, rfl, hfz, hnd⟩ := hW
  have hA : DataW.TrodAll enc Try.prog W 0 (fun _ => true) true Try.f3.params.toList args.toList ds p := hA0
  rw [Try.params3] at hA hval hsz
  obtain ⟨v0, vs0, d0, ds0, p0, q0, hargs, rfl, rfl, h0, r0⟩ := trodAll_cons hA
  obtain ⟨v1, vs1, d1, ds1, p1, q1, rfl, rfl, rfl, h1, r1⟩ := trodAll_cons r0
  obtain ⟨rfl, rfl, rfl⟩ := trodAll_nil r1
  obtain rfl : args = #[v0, v1] := by cases args; simp_all
  obtain ⟨rfl, rfl⟩ := trodVars_none hV
  have k0_ := h0
  have lt0 : ∀ x ∈ p0, x.block < W.heap.size := by obtain ⟨m, hm⟩ := k0_; exact DataW.trod_lt m _ _ _ hm
  obtain ⟨a0, len0, cap0, rfl⟩ := okWide_slice Try.underlying22 (hval 0 22 v0 rfl rfl)
  obtain ⟨l0, rfl, hC0, hcap0, hq0⟩ := Opn.opens_arg_slice (Opn.opens_slice (B := 32) Try.underlying22 (by kernel_rfl) (by kernel_rfl) opens_35) hsz (j := 0) rfl rfl h0 rfl
  have k1_ := h1
  have lt1 : ∀ x ∈ p1, x.block < W.heap.size := by obtain ⟨m, hm⟩ := k1_; exact DataW.trod_lt m _ _ _ hm
  obtain ⟨a1, rfl, rfl, rfl⟩ := open_bool Try.underlying4 (hval 1 4 v1 rfl rfl) h1
  clear hA0 hval0 hsz0 hsz
  refine (Tmr.plays_calls a0 cap0 l0 a1 W (by have := hq0.2; omega) (fun x_ hx_ => (hq0.1 x_ hx_).2.2) hC0 hcap0).mono fun e W' ⟨he, bel⟩ => ?_
  subst he
  exact ⟨_, rfl, _, _, _, [], _, [], hW', trodAll_mk1 (shut_bool Try.underlying4 _), (trodAll_cons_mk (Below.trod laidOut (by kernel_rfl) (of_decide_eq_true (by kernel_rfl)) k0_ bel lt0) (trodAll_cons_mk (Below.trod laidOut (by kernel_rfl) (of_decide_eq_true (by kernel_rfl)) k1_ bel lt1) trodAll_mk0)), rfl, bel.frame _, fun h => by cases h⟩
theorem over : Rows.timersPlayRow.holds Try.pinned (OpenSpec.ofChange Rows.timersPlaySpec) :=
  OpenClaim.holds_of_wide 3 Try.f3 rfl rfl rfl rfl rfl rfl rfl ⟨rfl, rfl, rfl, rfl, rfl⟩ rfl rfl rfl rfl rfl (by kernel_rfl) Try.func3 (by kernel_rfl)
    (of_decide_eq_true (by kernel_rfl)) (by unfold Func.isWrapper; first | (rw [if_pos (by decide +kernel)]; kernel_rfl) | (rw [if_neg (by decide +kernel)]; exact ⟨rfl, rfl⟩))
    (fun os started H enc _ => lifted os started H enc)
theorem proved : Rows.TimersPlaySaid := over
#print axioms proved
end Go.Proofs.Ytdfghndcengkaaa.timersPlay
namespace Go.Proofs.Ytdfghndcengkaaa
/-- The row, under a short name, for the claim. -/
theorem timersPlay_holds : Rows.TimersPlaySaid := timersPlay.proved
end Go.Proofs.Ytdfghndcengkaaa
