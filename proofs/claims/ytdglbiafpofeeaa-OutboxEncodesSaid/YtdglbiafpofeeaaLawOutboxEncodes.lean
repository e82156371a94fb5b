/- The row of OutboxEncodes: a message by value. -/
import Derived.Test.YtdglbiafpofeeaaRows
import Derived.Test.YtdglbiafpofeeaaPOutboxEncodesx10
import Derived.Test.YtdglbiafpofeeaaPureOutboxEncodes
import Derived.WalkKit
import Derived.ProofKit
import Derived.OpenShut
import Derived.ShutString
import Derived.ChangeOld
import Derived.Below
import Derived.SizedLaws
import Derived.Lib.SmallJoins
import Derived.Deep.Fields
namespace Go.Proofs.Ytdglbiafpofeeaa.outboxEncodes
open Go.ChangeShapes Go.WideShapes Go.ChangeAt Go.RowKit Go.Deep Go.Joins
set_option linter.unusedVariables false
theorem own : ownKnob Try.prog.godebug = none := by kernel_rfl
theorem laidOut : laidOutB Try.prog = true := by kernel_rfl
set_option maxRecDepth 100000 in
theorem message_open {H : Type} {enc : TypeId × Value → H} {W : World} {base : Nat} {spare : Nat → Bool} {held : Bool} {r : Reach} {b0 : Nat} {v : Value} {d : DataW H} {p : List MemPlace}
    (hv : Value.okWide Try.prog W r b0 28 v) (h : DataW.Trod enc Try.prog W base spare held 28 v d p) :
    ∃ (k i t : Int) (s : ByteArray) (a : Int) (o : Bool), v = .agg #[.int .i64 k, .int .i64 i, .int .i64 t, .string s, .int .i64 a, .bool o] := by
  obtain ⟨cs, rfl, hsz⟩ := okWide_struct Try.underlying28 hv
  rw [show Try.prog.cellsOf 28 = 6 from by kernel_rfl] at hsz
  obtain ⟨l⟩ := cs
  match l, hsz with
  | [c0, c1, c2, c3, c4, c5], _ =>
    obtain ⟨fuel, hf⟩ := h
    obtain ⟨ys, m, _, hx, _, hyl, hg⟩ := DataW.trod_struct Try.underlying28 hf
    have g0 : DataW.trod enc Try.prog W base spare held m 3 (([c0, c1, c2, c3, c4, c5].drop 0).take (Try.prog.cellsOf 3)) = ys[0]? := hg 0 _ rfl
    have g1 : DataW.trod enc Try.prog W base spare held m 3 (([c0, c1, c2, c3, c4, c5].drop 1).take (Try.prog.cellsOf 3)) = ys[1]? := hg 1 _ rfl
    have g2 : DataW.trod enc Try.prog W base spare held m 3 (([c0, c1, c2, c3, c4, c5].drop 2).take (Try.prog.cellsOf 3)) = ys[2]? := hg 2 _ rfl
    have g3 : DataW.trod enc Try.prog W base spare held m 9 (([c0, c1, c2, c3, c4, c5].drop 3).take (Try.prog.cellsOf 9)) = ys[3]? := hg 3 _ rfl
    have g4 : DataW.trod enc Try.prog W base spare held m 3 (([c0, c1, c2, c3, c4, c5].drop 4).take (Try.prog.cellsOf 3)) = ys[4]? := hg 4 _ rfl
    have g5 : DataW.trod enc Try.prog W base spare held m 4 (([c0, c1, c2, c3, c4, c5].drop 5).take (Try.prog.cellsOf 4)) = ys[5]? := hg 5 _ rfl
    rw [show Try.prog.cellsOf 3 = 1 from by kernel_rfl] at g0 g1 g2 g4
    rw [show Try.prog.cellsOf 9 = 1 from by kernel_rfl] at g3
    rw [show Try.prog.cellsOf 4 = 1 from by kernel_rfl] at g5
    match ys, hyl with
    | [y0, y1, y2, y3, y4, y5], _ =>
      obtain ⟨k, e0, _, _⟩ := DataW.trod_int Try.underlying3 (g0.trans (show _ = some y0 from rfl))
      obtain ⟨i, e1, _, _⟩ := DataW.trod_int Try.underlying3 (g1.trans (show _ = some y1 from rfl))
      obtain ⟨t, e2, _, _⟩ := DataW.trod_int Try.underlying3 (g2.trans (show _ = some y2 from rfl))
      obtain ⟨s, e3, _, _⟩ := DataW.trod_string Try.underlying9 (g3.trans (show _ = some y3 from rfl))
      obtain ⟨a, e4, _, _⟩ := DataW.trod_int Try.underlying3 (g4.trans (show _ = some y4 from rfl))
      obtain ⟨o, e5, _⟩ := DataW.trod_bool Try.underlying4 (g5.trans (show _ = some y5 from rfl))
      simp only [List.drop_zero, List.take_succ_cons, List.take_zero, List.drop_succ_cons, List.cons.injEq, and_true] at e0 e1 e2 e3 e4 e5
      subst e0 e1 e2 e3 e4 e5
      exact ⟨k, i, t, s, a, o, rfl⟩
set_option maxRecDepth 100000 in
theorem lifted (os : Os) (started : os.Started) (H : Type) (enc : TypeId × Value → H) :
    ReturnsInHanded {} Try.checked os 10 .any (Rows.outboxEncodesSpec.pre6 enc Try.prog Try.f10 Rows.outboxEncodesRow.domain false) (Rows.outboxEncodesSpec.post enc Try.prog Try.f10 false true false false) := by
  refine returnsInHanded_of_change_sized (C := Try.checked) own started (by kernel_rfl) Try.func10
    (ChangeSpec.witness6 (enc := enc) (C := Try.checked) false ⟨#[], #[.agg #[.int .i64 0, .int .i64 0, .int .i64 0, .string ByteArray.empty, .int .i64 0, .bool false]], []⟩ 8 (by kernel_rfl) (by kernel_rfl) (by kernel_rfl) (by kernel_rfl)) ?_
  intro W base args ds gs before hval0 hW hcnd hsz0 _
  have hval : ∀ (j : Nat) t v, Try.f10.params[j]? = some t → args[j]? = some v → Value.okWide Try.prog W .any base t v := hval0
  have hW' := hW
  obtain ⟨p, q, hA0, hV, rfl, hfz, hnd⟩ := hW
  have hA : DataW.TrodAll enc Try.prog W 0 (fun _ => true) true Try.f10.params.toList args.toList ds p := hA0
  rw [Try.params10] at hA hval
  obtain ⟨v0, vs0, d0, ds0, p0, q0, hargs, rfl, rfl, h0, r0⟩ := trodAll_cons hA
  obtain ⟨rfl, rfl, rfl⟩ := trodAll_nil r0
  obtain rfl : args = #[v0] := by cases args; simp_all
  obtain ⟨rfl, rfl⟩ := trodVars_none hV
  have k0 := h0
  have lt0 : ∀ x ∈ p0, x.block < W.heap.size := by obtain ⟨m, hm⟩ := k0; exact DataW.trod_lt m _ _ _ hm
  obtain ⟨k, i, t, s, a, o, rfl⟩ := message_open (hval 0 28 v0 rfl rfl) h0
  clear hA0 hval0 hsz0
  obtain ⟨n, hn⟩ := Pure.OutboxEncodes k i t s a o
  refine (POutboxEncodes.tumbrellaw18_OutboxEncodes.calls n k i t s a o true W hn).mono fun e W' ⟨he, bel⟩ => ?_
  subst he
  exact ⟨_, rfl, _, _, _, [], _, [], hW', trodAll_mk1 (shut_bool Try.underlying4 _), (trodAll_cons_mk (Below.trod laidOut (by kernel_rfl) (of_decide_eq_true (by kernel_rfl)) k0 bel lt0) trodAll_mk0), rfl, bel.frame _, fun h => by cases h⟩
theorem over : Rows.outboxEncodesRow.holds Try.pinned (OpenSpec.ofChange Rows.outboxEncodesSpec) :=
  OpenClaim.holds_of_wide 10 Try.f10 rfl rfl rfl rfl rfl rfl rfl ⟨rfl, rfl, rfl, rfl, rfl⟩ rfl rfl rfl rfl rfl (by kernel_rfl) Try.func10 (by kernel_rfl)
    (of_decide_eq_true (by kernel_rfl)) (by unfold Func.isWrapper; first | (rw [if_pos (by decide +kernel)]; kernel_rfl) | (rw [if_neg (by decide +kernel)]; exact ⟨rfl, rfl⟩))
    (fun os started H enc _ => lifted os started H enc)
theorem proved : Rows.OutboxEncodesSaid := over
#print axioms proved
end Go.Proofs.Ytdglbiafpofeeaa.outboxEncodes
namespace Go.Proofs.Ytdglbiafpofeeaa
/-- The row, under a short name, for the claim. -/
theorem outboxEncodes_holds : Rows.OutboxEncodesSaid := outboxEncodes.proved
end Go.Proofs.Ytdglbiafpofeeaa
