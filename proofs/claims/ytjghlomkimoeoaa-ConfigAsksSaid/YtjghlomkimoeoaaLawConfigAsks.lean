/- ConfigAsks: of any nodes and numbers each call answers what the document says. -/
import Derived.Test.YtjghlomkimoeoaaRows
import Derived.Test.YtjghlomkimoeoaaTrK
import Derived.Test.YtjghlomkimoeoaaOpen
import Derived.WalkKit
import Derived.ProofKit
import Derived.OpenShut
import Derived.ShutString
import Derived.ChangeOld
import Derived.Below
import Derived.SizedLaws
import Derived.Deep.Fields
namespace Go.Proofs.Ytjghlomkimoeoaa.configAsks
open Go.ChangeShapes Go.WideShapes Go.ChangeAt Go.RowKit Go.Deep Go.Proofs.YtjghlomkimoeoaaW.PrintWords Go.Proofs.YtjghlomkimoeoaaW.PrintLast Go.Proofs.Ytjghlomkimoeoaa.PConfigAsks
open Go.ChangeMaps (open_string shut_string)
set_option linter.unusedVariables false
theorem own : ownKnob Try.prog.godebug = none := by kernel_rfl
theorem laidOut : laidOutB Try.prog = true := by kernel_rfl
theorem opens_140 : Opn.Opens Try.prog 140 k140 (fun x => (x.f0.size ≤ 140737488351232) ∧ ((Lit.int .i64 x.f1).wf = true) ∧ ((Lit.int .i64 x.f2).wf = true) ∧ ((Lit.int .i64 x.f3).wf = true)) := by
  intro H enc W base spare held n cs x h hl
  obtain ⟨hlen, hp⟩ := Opn.struct_parts (sz := 7) Try.underlying140 (by kernel_rfl) h hl
  obtain ⟨p0, K0, Q0⟩ : ∃ p, Kd.string.K W p ((cs.drop 0).take 1) ∧ (p.size ≤ 140737488351232) := hp 0 _ rfl (Opn.opens_string Try.underlying9) (by kernel_rfl)
  obtain ⟨p1, K1, Q1⟩ : ∃ p, (Kd.int .i64).K W p ((cs.drop 1).take 1) ∧ ((Lit.int .i64 p).wf = true) := hp 1 _ rfl (Opn.opens_int Try.underlying3) (by kernel_rfl)
  obtain ⟨p2, K2, Q2⟩ : ∃ p, (Kd.int .i64).K W p ((cs.drop 2).take 1) ∧ ((Lit.int .i64 p).wf = true) := hp 2 _ rfl (Opn.opens_int Try.underlying3) (by kernel_rfl)
  obtain ⟨p3, K3, Q3⟩ : ∃ p, (Kd.int .i64).K W p ((cs.drop 3).take 1) ∧ ((Lit.int .i64 p).wf = true) := hp 3 _ rfl (Opn.opens_int Try.underlying3) (by kernel_rfl)
  obtain ⟨p4, K4, Q4⟩ : ∃ p, Kd.bool.K W p ((cs.drop 4).take 1) ∧ True := hp 4 _ rfl (Opn.opens_bool Try.underlying4) (by kernel_rfl)
  obtain ⟨p5, K5, Q5⟩ : ∃ p, Kd.bool.K W p ((cs.drop 5).take 1) ∧ True := hp 5 _ rfl (Opn.opens_bool Try.underlying4) (by kernel_rfl)
  obtain ⟨p6, K6, Q6⟩ : ∃ p, Kd.bool.K W p ((cs.drop 6).take 1) ∧ True := hp 6 _ rfl (Opn.opens_bool Try.underlying4) (by kernel_rfl)
  have hK := Opn.K_step K0 (Opn.K_step K1 (Opn.K_step K2 (Opn.K_step K3 (Opn.K_step K4 (Opn.K_step K5 (Opn.K_last K6 (by rw [hlen])) rfl) rfl) rfl) rfl) rfl) rfl
  exact ⟨⟨p0, p1, p2, p3, p4, p5, p6⟩, hK, ⟨Q0, Q1, Q2, Q3⟩⟩
set_option maxRecDepth 100000 in
theorem lifted (os : Os) (started : os.Started) (H : Type) (enc : TypeId × Value → H) :
    ReturnsInHanded {} Try.checked os 9 .any (Rows.configAsksSpec.pre6 enc Try.prog Try.f9 Rows.configAsksRow.domain false) (Rows.configAsksSpec.post enc Try.prog Try.f9 false true false false) := by
  refine returnsInHanded_of_change_sized (C := Try.checked) own started (by kernel_rfl) Try.func9
    (ChangeSpec.witness6 (enc := enc) (C := Try.checked) false ⟨#[], #[.slice none 0 0, .slice none 0 0, .int .i64 0, .int .i64 0], []⟩ 8 (by kernel_rfl) (by kernel_rfl) (by kernel_rfl) (by kernel_rfl)) ?_
  intro W base args ds gs before hval0 hW hcnd hsz0 _
  have hsz : (DataW.weightsEach Try.prog (Try.f9.params.toList ++ Rows.configAsksSpec.plain.varTypes Try.prog) (ds ++ gs)).all (· ≤ reachBytes) = true := hsz0
  have hval : ∀ (j : Nat) t v, Try.f9.params[j]? = some t → args[j]? = some v → Value.okWide Try.prog W .any base t v := hval0
  have hW' := hW
  obtain ⟨p, q, hA0, hV, rfl, hfz, hnd⟩ := hW
  have hA : DataW.TrodAll enc Try.prog W 0 (fun _ => true) true Try.f9.params.toList args.toList ds p := hA0
  rw [Try.params9] at hA hval hsz
  obtain ⟨v0, vs0, d0, ds0, p0, q0, hargs, rfl, rfl, h0, r0⟩ := trodAll_cons hA
  obtain ⟨v1, vs1, d1, ds1, p1, q1, rfl, rfl, rfl, h1, r1⟩ := trodAll_cons r0
  obtain ⟨v2, vs2, d2, ds2, p2, q2, rfl, rfl, rfl, h2, r2⟩ := trodAll_cons r1
  obtain ⟨v3, vs3, d3, ds3, p3, q3, rfl, rfl, rfl, h3, r3⟩ := trodAll_cons r2
  obtain ⟨rfl, rfl, rfl⟩ := trodAll_nil r3
  obtain rfl : args = #[v0, v1, v2, v3] := by cases args; simp_all
  obtain ⟨rfl, rfl⟩ := trodVars_none hV
  have k0_ := h0
  have lt0 : ∀ x ∈ p0, x.block < W.heap.size := by obtain ⟨m, hm⟩ := k0_; exact DataW.trod_lt m _ _ _ hm
  obtain ⟨a0, len0, cap0, rfl⟩ := okWide_slice Try.underlying64 (hval 0 64 v0 rfl rfl)
  obtain ⟨l0, rfl, hC0, hcap0, hq0⟩ := Opn.opens_arg_slice (Opn.opens_slice (B := 48) Try.underlying64 (by kernel_rfl) (by kernel_rfl) opens_140) hsz (j := 0) rfl rfl h0 rfl
  have k1_ := h1
  have lt1 : ∀ x ∈ p1, x.block < W.heap.size := by obtain ⟨m, hm⟩ := k1_; exact DataW.trod_lt m _ _ _ hm
  obtain ⟨a1, len1, cap1, rfl⟩ := okWide_slice Try.underlying65 (hval 1 65 v1 rfl rfl)
  obtain ⟨l1, rfl, hC1, hcap1, hq1⟩ := Opn.opens_arg_slice (Opn.opens_slice (B := 8) Try.underlying65 (by kernel_rfl) (by kernel_rfl) (Opn.opens_int Try.underlying3)) hsz (j := 1) rfl rfl h1 rfl
  have k2_ := h2
  have lt2 : ∀ x ∈ p2, x.block < W.heap.size := by obtain ⟨m, hm⟩ := k2_; exact DataW.trod_lt m _ _ _ hm
  obtain ⟨a2, rfl, rfl, rfl, w2⟩ := open_int Try.underlying3 (hval 2 3 v2 rfl rfl) h2
  have k3_ := h3
  have lt3 : ∀ x ∈ p3, x.block < W.heap.size := by obtain ⟨m, hm⟩ := k3_; exact DataW.trod_lt m _ _ _ hm
  obtain ⟨a3, rfl, rfl, rfl, w3⟩ := open_int Try.underlying3 (hval 3 3 v3 rfl rfl) h3
  clear hA0 hval0 hsz0 hsz
  obtain ⟨kk_, hk_⟩ := (Tr.asks l0 l1 a2 a3).rounds
  refine (tumbrellaw10_ConfigAsks.calls kk_ a0 cap0 l0 a1 cap1 l1 a2 a3 true W hC0 hcap0 hC1 hcap1 hk_).mono fun e W' ⟨he, bel⟩ => ?_
  subst he
  exact ⟨_, rfl, _, _, _, [], _, [], hW', trodAll_mk1 (shut_bool Try.underlying4 _), (trodAll_cons_mk (Below.trod laidOut (by kernel_rfl) (of_decide_eq_true (by kernel_rfl)) k0_ bel lt0) (trodAll_cons_mk (Below.trod laidOut (by kernel_rfl) (of_decide_eq_true (by kernel_rfl)) k1_ bel lt1) (trodAll_cons_mk (Below.trod laidOut (by kernel_rfl) (of_decide_eq_true (by kernel_rfl)) k2_ bel lt2) (trodAll_cons_mk (Below.trod laidOut (by kernel_rfl) (of_decide_eq_true (by kernel_rfl)) k3_ bel lt3) trodAll_mk0)))), rfl, bel.frame _, fun h => by cases h⟩
theorem over : Rows.configAsksRow.holds Try.pinned (OpenSpec.ofChange Rows.configAsksSpec) :=
  OpenClaim.holds_of_wide 9 Try.f9 rfl rfl rfl rfl rfl rfl rfl ⟨rfl, rfl, rfl, rfl, rfl⟩ rfl rfl rfl rfl rfl (by kernel_rfl) Try.func9 (by kernel_rfl)
    (of_decide_eq_true (by kernel_rfl)) (by unfold Func.isWrapper; first | (rw [if_pos (by decide +kernel)]; kernel_rfl) | (rw [if_neg (by decide +kernel)]; exact ⟨rfl, rfl⟩))
    (fun os started H enc _ => lifted os started H enc)
theorem proved : Rows.ConfigAsksSaid := over
#print axioms proved
end Go.Proofs.Ytjghlomkimoeoaa.configAsks
namespace Go.Proofs.Ytjghlomkimoeoaa
/-- The row, under a short name, for the claim. -/
theorem configAsks_holds : Rows.ConfigAsksSaid := configAsks.proved
end Go.Proofs.Ytjghlomkimoeoaa
