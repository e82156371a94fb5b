/- DiskKeeps: behind a crash each segment has what was synced, and perhaps more of what was there, from the first byte on: for all scripts. -/
import Derived.Test.YtnplnelhodnonaaRows
import Derived.Test.YtnplnelhodnonaaKpLaw
import Derived.Test.YtnplnelhodnonaaOpen
import Derived.WalkKit
import Derived.ProofKit
import Derived.OpenShut
import Derived.ShutString
import Derived.ChangeOld
import Derived.Below
import Derived.SizedLaws
import Derived.Deep.Fields
namespace Go.Proofs.Ytnplnelhodnonaa.diskKeeps
open Go.ChangeShapes Go.WideShapes Go.ChangeAt Go.RowKit Go.Deep Go.Proofs.YtnplnelhodnonaaW.PrintWords Go.Proofs.YtnplnelhodnonaaW.PrintLast Go.Proofs.Ytnplnelhodnonaa.PDiskNil
open Go.ChangeMaps (open_string shut_string)
set_option linter.unusedVariables false
theorem own : ownKnob Try.prog.godebug = none := by kernel_rfl
theorem laidOut : laidOutB Try.prog = true := by kernel_rfl
theorem opens_33 : Opn.Opens Try.prog 33 k33 (fun x => ((Lit.int .i64 x.f0).wf = true) ∧ ((Lit.int .i64 x.f1).wf = true) ∧ ((Lit.int .i64 x.f2).wf = true) ∧ ((Lit.int .u8 x.f3).wf = true) ∧ ((∀ y_ ∈ x.f4, (Lit.int .u8 y_).wf = true) ∧ x.f4.length * 1 ≤ 140737488351232) ∧ ((∀ y_ ∈ x.f5, (Lit.int .i64 y_).wf = true) ∧ x.f5.length * 8 ≤ 140737488351232)) := by
  intro H enc W base spare held n cs x h hl
  obtain ⟨hlen, hp⟩ := Opn.struct_parts (sz := 6) Try.underlying33 (by kernel_rfl) h hl
  obtain ⟨p0, K0, Q0⟩ : ∃ p, (Kd.int .i64).K W p ((cs.drop 0).take 1) ∧ ((Lit.int .i64 p).wf = true) := hp 0 _ rfl (Opn.opens_int Try.underlying3) (by kernel_rfl)
  obtain ⟨p1, K1, Q1⟩ : ∃ p, (Kd.int .i64).K W p ((cs.drop 1).take 1) ∧ ((Lit.int .i64 p).wf = true) := hp 1 _ rfl (Opn.opens_int Try.underlying3) (by kernel_rfl)
  obtain ⟨p2, K2, Q2⟩ : ∃ p, (Kd.int .i64).K W p ((cs.drop 2).take 1) ∧ ((Lit.int .i64 p).wf = true) := hp 2 _ rfl (Opn.opens_int Try.underlying3) (by kernel_rfl)
  obtain ⟨p3, K3, Q3⟩ : ∃ p, (Kd.int .u8).K W p ((cs.drop 3).take 1) ∧ ((Lit.int .u8 p).wf = true) := hp 3 _ rfl (Opn.opens_int Try.underlying5) (by kernel_rfl)
  obtain ⟨p4, K4, Q4⟩ : ∃ p, (Kd.slice 5 (Kd.int .u8)).K W p ((cs.drop 4).take 1) ∧ ((∀ y_ ∈ p, (Lit.int .u8 y_).wf = true) ∧ p.length * 1 ≤ 140737488351232) := hp 4 _ rfl (Opn.opens_slice (B := 1) Try.underlying30 (by kernel_rfl) (by kernel_rfl) (Opn.opens_int Try.underlying5)) (by kernel_rfl)
  obtain ⟨p5, K5, Q5⟩ : ∃ p, (Kd.slice 3 (Kd.int .i64)).K W p ((cs.drop 5).take 1) ∧ ((∀ y_ ∈ p, (Lit.int .i64 y_).wf = true) ∧ p.length * 8 ≤ 140737488351232) := hp 5 _ rfl (Opn.opens_slice (B := 8) Try.underlying31 (by kernel_rfl) (by kernel_rfl) (Opn.opens_int Try.underlying3)) (by kernel_rfl)
  have hK := Opn.K_step K0 (Opn.K_step K1 (Opn.K_step K2 (Opn.K_step K3 (Opn.K_step K4 (Opn.K_last K5 (by rw [hlen])) rfl) rfl) rfl) rfl) rfl
  exact ⟨⟨p0, p1, p2, p3, p4, p5⟩, hK, ⟨Q0, Q1, Q2, Q3, Q4, Q5⟩⟩
set_option maxRecDepth 100000 in
theorem lifted (os : Os) (started : os.Started) (H : Type) (enc : TypeId × Value → H) :
    ReturnsInHanded {} Try.checked os 4 .any (Rows.diskKeepsSpec.pre6 enc Try.prog Try.f4 Rows.diskKeepsRow.domain false) (Rows.diskKeepsSpec.post enc Try.prog Try.f4 false true false false) := by
  refine returnsInHanded_of_change_sized (C := Try.checked) own started (by kernel_rfl) Try.func4
    (ChangeSpec.witness6 (enc := enc) (C := Try.checked) false ⟨#[], #[.slice none 0 0, .slice none 0 0], []⟩ 8 (by kernel_rfl) (by kernel_rfl) (by kernel_rfl) (by kernel_rfl)) ?_
  intro W base args ds gs before hval0 hW hcnd hsz0 _
  have hsz : (DataW.weightsEach Try.prog (Try.f4.params.toList ++ Rows.diskKeepsSpec.plain.varTypes Try.prog) (ds ++ gs)).all (· ≤ reachBytes) = true := hsz0
  have hval : ∀ (j : Nat) t v, Try.f4.params[j]? = some t → args[j]? = some v → Value.okWide Try.prog W .any base t v := hval0
  have hW' := hW
  obtain ⟨p, q, hA0, hV, rfl, hfz, hnd⟩ := hW
  have hA : DataW.TrodAll enc Try.prog W 0 (fun _ => true) true Try.f4.params.toList args.toList ds p := hA0
  rw [Try.params4] at hA hval hsz
  obtain ⟨v0, vs0, d0, ds0, p0, q0, hargs, rfl, rfl, h0, r0⟩ := trodAll_cons hA
  obtain ⟨v1, vs1, d1, ds1, p1, q1, rfl, rfl, rfl, h1, r1⟩ := trodAll_cons r0
  obtain ⟨rfl, rfl, rfl⟩ := trodAll_nil r1
  obtain rfl : args = #[v0, v1] := by cases args; simp_all
  obtain ⟨rfl, rfl⟩ := trodVars_none hV
  have k0_ := h0
  have lt0 : ∀ x ∈ p0, x.block < W.heap.size := by obtain ⟨m, hm⟩ := k0_; exact DataW.trod_lt m _ _ _ hm
  obtain ⟨a0, len0, cap0, rfl⟩ := okWide_slice Try.underlying22 (hval 0 22 v0 rfl rfl)
  obtain ⟨l0, rfl, hC0, hcap0, hq0⟩ := Opn.opens_arg_slice (Opn.opens_slice (B := 80) Try.underlying22 (by kernel_rfl) (by kernel_rfl) opens_33) hsz (j := 0) rfl rfl h0 rfl
  have k1_ := h1
  have lt1 : ∀ x ∈ p1, x.block < W.heap.size := by obtain ⟨m, hm⟩ := k1_; exact DataW.trod_lt m _ _ _ hm
  obtain ⟨a1, len1, cap1, rfl⟩ := okWide_slice Try.underlying31 (hval 1 31 v1 rfl rfl)
  obtain ⟨l1, rfl, hC1, hcap1, hq1⟩ := Opn.opens_arg_slice (Opn.opens_slice (B := 8) Try.underlying31 (by kernel_rfl) (by kernel_rfl) (Opn.opens_int Try.underlying3)) hsz (j := 1) rfl rfl h1 rfl
  clear hA0 hval0 hsz0 hsz
  refine (Dsk.keeps_calls a0 cap0 l0 a1 cap1 l1 W (by have := hq0.2; omega) (fun x_ hx_ => by have := (hq0.1 x_ hx_).2.2.2.2.1.2; omega) (fun x_ hx_ => (hq0.1 x_ hx_).2.1) hC0 hcap0 hC1 hcap1 (by have := hq1.2; omega)).mono fun e W' ⟨he, bel⟩ => ?_
  subst he
  exact ⟨_, rfl, _, _, _, [], _, [], hW', trodAll_mk1 (shut_bool Try.underlying4 _), (trodAll_cons_mk (Below.trod laidOut (by kernel_rfl) (of_decide_eq_true (by kernel_rfl)) k0_ bel lt0) (trodAll_cons_mk (Below.trod laidOut (by kernel_rfl) (of_decide_eq_true (by kernel_rfl)) k1_ bel lt1) trodAll_mk0)), rfl, bel.frame _, fun h => by cases h⟩
theorem over : Rows.diskKeepsRow.holds Try.pinned (OpenSpec.ofChange Rows.diskKeepsSpec) :=
  OpenClaim.holds_of_wide 4 Try.f4 rfl rfl rfl rfl rfl rfl rfl ⟨rfl, rfl, rfl, rfl, rfl⟩ rfl rfl rfl rfl rfl (by kernel_rfl) Try.func4 (by kernel_rfl)
    (of_decide_eq_true (by kernel_rfl)) (by unfold Func.isWrapper; first | (rw [if_pos (by decide +kernel)]; kernel_rfl) | (rw [if_neg (by decide +kernel)]; exact ⟨rfl, rfl⟩))
    (fun os started H enc _ => lifted os started H enc)
theorem proved : Rows.DiskKeepsSaid := over
#print axioms proved
end Go.Proofs.Ytnplnelhodnonaa.diskKeeps
namespace Go.Proofs.Ytnplnelhodnonaa
/-- The row, under a short name, for the claim. -/
theorem diskKeeps_holds : Rows.DiskKeepsSaid := diskKeeps.proved
end Go.Proofs.Ytnplnelhodnonaa
