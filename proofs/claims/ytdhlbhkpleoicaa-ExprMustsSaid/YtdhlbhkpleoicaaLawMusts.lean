/- ExprMusts, walked. -/
import Derived.Test.YtdhlbhkpleoicaaExSmall
import Derived.Defers
import Derived.Recover
namespace Go.Proofs.Ytdhlbhkpleoicaa.Exp
open Go.RowKit Go.Proofs.YtdhlbhkpleoicaaW.PrintWords Go.Proofs.YtdhlbhkpleoicaaW.PrintLast Go.Proofs.YtdhlbhkpleoicaaW.PrintMore Go.Proofs.Ytdhlbhkpleoicaa.PExprSame
open Frm
set_option linter.unusedVariables false
set_option linter.unusedSimpArgs false
theorem ta_lit (v : Value) (W : World) : (Instr.typeAssert (.iface 47 v) 30 47 false).run Try.prog W = .ok v W := by kernel_rfl
theorem ta_fail_nil (W : World) : (Instr.typeAssert .nilIface 30 47 false).run Try.prog W = .halt (.panic (.iface 15 (.pointer (some ⟨W.heap.size, 0, none⟩)))) (W.alloc (.cells #[typeHandle Try.prog 30, .pointer none, typeHandle Try.prog 47, .string ⟨#[]⟩] 87)) := by kernel_rfl
theorem ta_fail_not (v : Value) (W : World) : (Instr.typeAssert (.iface 35 v) 30 47 false).run Try.prog W = .halt (.panic (.iface 15 (.pointer (some ⟨W.heap.size, 0, none⟩)))) (W.alloc (.cells #[typeHandle Try.prog 30, typeHandle Try.prog 35, typeHandle Try.prog 47, .string ⟨#[]⟩] 87)) := by kernel_rfl
theorem ta_fail_neg (v : Value) (W : World) : (Instr.typeAssert (.iface 54 v) 30 47 false).run Try.prog W = .halt (.panic (.iface 15 (.pointer (some ⟨W.heap.size, 0, none⟩)))) (W.alloc (.cells #[typeHandle Try.prog 30, typeHandle Try.prog 54, typeHandle Try.prog 47, .string ⟨#[]⟩] 87)) := by kernel_rfl
theorem ta_fail_bin (v : Value) (W : World) : (Instr.typeAssert (.iface 33 v) 30 47 false).run Try.prog W = .halt (.panic (.iface 15 (.pointer (some ⟨W.heap.size, 0, none⟩)))) (W.alloc (.cells #[typeHandle Try.prog 30, typeHandle Try.prog 33, typeHandle Try.prog 47, .string ⟨#[]⟩] 87)) := by kernel_rfl
theorem ta_fail_ref (v : Value) (W : World) : (Instr.typeAssert (.iface 53 v) 30 47 false).run Try.prog W = .halt (.panic (.iface 15 (.pointer (some ⟨W.heap.size, 0, none⟩)))) (W.alloc (.cells #[typeHandle Try.prog 30, typeHandle Try.prog 53, typeHandle Try.prog 47, .string ⟨#[]⟩] 87)) := by kernel_rfl
attribute [local go_sem] ta_lit ta_fail_nil ta_fail_not ta_fail_neg ta_fail_bin ta_fail_ref
theorem catch_panicking (p : Addr) (x : Bool) (u : TypeId) (pv : Value) (older : List PanicEntry) (w : World) (hc : w.cell? p = some (.bool x)) (hz : w.frozen? p = false) :
    CallsD Try.prog 21 #[.pointer (some p)] (.panicking ({ v := .iface u pv, recovered := false } :: older)) w fun e u' w' =>
      e = .returned (.tuple #[]) ∧ u' = .panicking ({ v := .iface u pv, recovered := true } :: older) ∧ w' = w.setCell p (.bool true) := by
  refine callsD_of_wpS Try.func21 rfl fun c₀ cs hu => ?_
  apply wpS_seq
  apply wpS_region
  simp [wpOpsS, go_sem, recoverD, hu, Try.ntmps21, Exit.thenS]
  refine wpS_cond (t := true) (by simp [Act.eval, Array.replicate]) ?_
  simp only [if_true]
  apply wpS_region
  simp [wpOpsS, go_sem, hc, hz, bodyPostS, results, Try.results21]
theorem catch_idle (p : Addr) (w : World) :
    CallsD Try.prog 21 #[.pointer (some p)] .returning w fun e u' w' => e = .returned (.tuple #[]) ∧ u' = .returning ∧ w' = w := by
  refine callsD_of_wpS Try.func21 rfl fun c₀ cs hu => ?_
  apply wpS_seq
  apply wpS_region
  simp [wpOpsS, go_sem, recoverD, hu, Try.ntmps21, Exit.thenS]
  refine wpS_cond (t := false) (by simp [Act.eval, Array.replicate]) ?_
  simp only [Bool.false_eq_true, if_false]
  refine wpS_of_wp (wp_skip ?_)
  cases c₀
  simp_all [bodyPostS, results, Try.results21]
theorem field_lit (n : Int) (w : World) : (Instr.field 47 (.agg #[.int .i64 n]) 0).run Try.prog w = .ok (.int .i64 n) w := by kernel_rfl
attribute [local go_sem] field_lit
set_option maxHeartbeats 1000000 in
set_option maxRecDepth 100000 in
theorem Must_lit (n : Int) (w : World) : Calls Try.prog 22 #[.iface 47 (.agg #[.int .i64 n])] w fun e w' => e = .returned (.int .i64 n) ∧ w' = w := by
  go_enter Try.func22, Try.ntmps22
  go_wp2
  go_ret
  exact ⟨rfl, rfl⟩
def isLit : Ex → Bool
  | .lit _ => true
  | _ => false
set_option maxHeartbeats 1000000 in
set_option maxRecDepth 100000 in
theorem Must_not (x : Ex) (hx : isLit x = false) (w : World) : Calls Try.prog 22 #[enc x] w fun e w' => e = .panicked [{ v := .iface 15 (.pointer (some ⟨w.heap.size, 0, none⟩)), recovered := false }] ∧ Below w.heap.size w w' := by
  cases x
  case lit => cases hx
  all_goals
    unfold enc
    clear hx
    go_enter Try.func22, Try.ntmps22
    go_wp2
    exact ⟨rfl, rfl, below_alloc (Below.refl _ _) _⟩
set_option maxHeartbeats 1000000 in
set_option maxRecDepth 100000 in
theorem must_lit (n : Int) (w : World) : Calls Try.prog 12 #[.iface 47 (.agg #[.int .i64 n])] w fun e w' => e = .returned (.tuple #[.int .i64 n, .bool false]) ∧ Below w.heap.size w w' := by
  have hmf : ∀ (fn : Fn) (first cap : Array Value) (w : World), (Instr.makeFunc fn first cap).run Try.prog w = .ok (.func fn first cap) w := fun _ _ _ _ => rfl
  go_enter_defers Try.func12, Try.ntmps12
  go_wp2_with (first | (go_at_call 22; (with_reducible refine (Must_lit _ _).mono ?_); rintro e w4 ⟨rfl, rfl⟩) | fail)
  refine leaves_cons (f := 21) (args := #[.pointer (some ⟨w.heap.size, 0, none⟩)]) (by simp) (by simp [go_sem]) ?_
  refine (catch_idle ⟨w.heap.size, 0, none⟩ _).mono ?_
  rintro e u' w'' ⟨rfl, rfl, rfl⟩
  simp [Leaves, settle, results, Try.results12, go_sem]
  exact below_alloc (Below.refl _ _) _
set_option maxHeartbeats 1000000 in
set_option maxRecDepth 100000 in
theorem must_not (x : Ex) (hx : isLit x = false) (w : World) : Calls Try.prog 12 #[enc x] w fun e w' => e = .returned (.tuple #[.int .i64 0, .bool true]) ∧ Below w.heap.size w w' := by
  have hmf : ∀ (fn : Fn) (first cap : Array Value) (w : World), (Instr.makeFunc fn first cap).run Try.prog w = .ok (.func fn first cap) w := fun _ _ _ _ => rfl
  have hM := Aside0.mk (fun w => Must_not x hx w)
  obtain ⟨v, hv⟩ : ∃ v, enc x = v := ⟨_, rfl⟩
  have hv1 : v = .nilIface ∨ ∃ t u, v = .iface t u := hv ▸ enc_form x
  rw [hv] at hM ⊢
  clear hx hv
  rcases hv1 with rfl | ⟨t, u, rfl⟩
  all_goals
    go_enter_defers Try.func12, Try.ntmps12
    go_wp2_with (first | (go_at_call 22; (with_reducible refine (hM.out _).mono ?_); rintro e w4 ⟨rfl, hb4⟩) | fail)
    have hc : w4.heap[w.heap.size]? = some (.cells #[.bool false] 4 (0, 0)) := blk_below (w := w.alloc (.cells #[.bool false] 4)) (blk_new _ _) hb4
    have hB : Below w.heap.size w w4 := below_step (below_alloc (Below.refl _ _) _) hb4
    refine leaves_cons (f := 21) (args := #[.pointer (some ⟨w.heap.size, 0, none⟩)]) (by simp) (by simp [go_sem]) ?_
    refine (catch_panicking ⟨w.heap.size, 0, none⟩ false 15 _ [] _ ((blk_cell hc 0).trans rfl) (blk_frozen hc 0)).mono ?_
    rintro e u' w'' ⟨rfl, rfl, rfl⟩
    have hc2 : (w4.setCell ⟨w.heap.size, 0, none⟩ (.bool true)).cell? ⟨w.heap.size, 0, none⟩ = some (.bool true) := by
      have := blk_cell (blk_set hc 0 (.bool true)) 0
      simpa using this
    simp [Leaves, settle, results, Try.results12, go_sem, hc2]
    exact hB.setCell (Nat.le_refl _) _
theorem cells4m {w : World} {b : Nat} {k n : Int} {s : ByteArray} {v : Value} (h : w.heap[b]? = some (.cells #[.int .i64 k, .int .i64 n, .string s, v] 24 (0, 0))) :
    w.cell? ⟨b, 0, none⟩ = some (.int .i64 k) ∧ w.cell? ⟨b, 1, none⟩ = some (.int .i64 n) ∧ w.cell? ⟨b, 2, none⟩ = some (.string s) ∧ w.cell? ⟨b, 3, none⟩ = some v :=
  ⟨(blk_cell h 0).trans rfl, (blk_cell h 1).trans rfl, (blk_cell h 2).trans rfl, (blk_cell h 3).trans rfl⟩
theorem lit_theirs (x : S24) : isLit (theirs x) = decide (x.f0 = 1) := by
  rw [theirs_eq]
  by_cases h : x.f0 = 1
  · rw [if_pos h, decide_eq_true h]
    rfl
  · rw [if_neg h, decide_eq_false h]
    repeat' split
    all_goals rfl
set_option maxHeartbeats 4000000 in
set_option maxRecDepth 100000 in
theorem musts_calls (x : S24) (A1 : Option Addr) (c1 : Nat) (w : World) (hC1 : Kd.C k24 w A1 x.f3.length x.f3) (hc1 : x.f3.length ≤ c1) :
    Calls Try.prog 4 #[.agg #[.int .i64 x.f0, .int .i64 x.f1, .string x.f2, .slice A1 x.f3.length c1]] w fun e w' => e = .returned (.bool true) ∧ Below w.heap.size w w' := by
  obtain ⟨s1, hs1⟩ := Small_calls x (okN_C 200 x w A1 hC1)
  have hS1 := Aside0.mk (fun W (hb : Below w.heap.size w W) => hs1 A1 c1 W (Kd.C_below hC1 hb) hc1)
  have hT1 := Aside0.mk (fun W (hb : Below w.heap.size w W) => Theirs_calls x A1 c1 W (Kd.C_below hC1 hb) hc1)
  have hlt := lit_theirs x
  have hle : x.f0 = 1 → enc (theirs x) = .iface 47 (.agg #[.int .i64 x.f1]) := fun h => by rw [theirs_eq, if_pos h]; rfl
  obtain ⟨X, hX⟩ : ∃ X, theirs x = X := ⟨_, rfl⟩
  rw [hX] at hT1 hlt hle
  obtain ⟨k1, n1, t1, l1⟩ := x
  simp only [] at hS1 hT1 hlt hle ⊢
  have hlt' := Aside0.mk hlt
  have hle' := Aside0.mk hle
  clear hs1 hC1 hc1 hX hlt hle
  have hAw := Aside0.mk (fun w => awake_calls w)
  go_enter Try.func4, Try.ntmps4
  go_upto_region 1 with fail
  refine wp_world (fun W hW => ?_)
  have hB1 : W.heap[w.heap.size]? = some (.cells #[.int .i64 k1, .int .i64 n1, .string t1, .slice A1 l1.length c1] 24 (0, 0)) := by rw [hW]; exact blk_new _ _
  have hBW : Aside0 (Below w.heap.size w W) := ⟨by rw [hW]; exact below_alloc (Below.refl _ _) _⟩
  obtain ⟨b1, hb1⟩ : ∃ b, w.heap.size = b := ⟨_, rfl⟩
  rw [hb1] at hB1
  rw [hb1]
  have hB1' := Aside0.mk hB1
  clear hW hB1
  cases s1 with
  | false =>
    go_upto_region 2 with (first
      | (go_at_call 6; (with_reducible refine (hAw.out _).mono ?_); rintro e w1 ⟨rfl, hq1⟩; have hX1 := Aside0.mk hq1; clear hq1; obtain ⟨x0, x1, x2, x3⟩ := cells4m (blk_below hB1'.out hX1.out))
      | (go_at_call 7; (with_reducible refine (hS1.out _ (below_step hBW.out hX1.out)).mono ?_); rintro e w2 ⟨rfl, hq2⟩; have hX2 : Aside0 (Below W.heap.size W w2) := ⟨below_step hX1.out hq2⟩; clear hq2)
      | fail)
    go_wp2_with (first | (go_at_call 6; (with_reducible refine (hAw.out _).mono ?_); rintro e w9 ⟨rfl, hq9⟩; have hX9 := Aside0.mk hq9; clear hq9) | fail)
    go_ret
    exact ⟨rfl, below_step hBW.out (below_step hX2.out hX9.out)⟩
  | true =>
    by_cases k : k1 = 1
    · subst k
      have hvX := hle'.out rfl
      rw [hvX] at hT1
      clear hvX hlt' hle'
      go_wp2_with (first
        | (go_at_call 6; (with_reducible refine (hAw.out _).mono ?_); rintro e w1 ⟨rfl, hq1⟩; have hX1 := Aside0.mk hq1; clear hq1; obtain ⟨x0, x1, x2, x3⟩ := cells4m (blk_below hB1'.out hX1.out))
        | (go_at_call 7; (with_reducible refine (hS1.out _ (below_step hBW.out hX1.out)).mono ?_); rintro e w2 ⟨rfl, hq2⟩; have hX2 : Aside0 (Below W.heap.size W w2) := ⟨below_step hX1.out hq2⟩; clear hq2; obtain ⟨y0, y1, y2, y3⟩ := cells4m (blk_below hB1'.out hX2.out))
        | (go_at_call 9; (with_reducible refine (hT1.out _ (below_step hBW.out hX2.out)).mono ?_); rintro e w3 ⟨rfl, hq3⟩; have hX3 : Aside0 (Below W.heap.size W w3) := ⟨below_step hX2.out hq3⟩; clear hq3)
        | (go_at_call 12; (with_reducible refine (must_lit _ _).mono ?_); rintro e w4 ⟨rfl, hq4⟩; have hX4 : Aside0 (Below W.heap.size W w4) := ⟨below_step hX3.out hq4⟩; clear hq4; obtain ⟨z0, z1, z2, z3⟩ := cells4m (blk_below hB1'.out hX4.out))
        | fail)
      go_ret
      exact ⟨by simp, below_step hBW.out hX4.out⟩
    · have hk0 : (k1 != 1) = true := by simpa using k
      have hM := Aside0.mk (fun w => must_not X (by rw [hlt'.out, decide_eq_false k]) w)
      obtain ⟨v, hv⟩ : ∃ v, enc X = v := ⟨_, rfl⟩
      have hv1 : v = .nilIface ∨ ∃ t u, v = .iface t u := hv ▸ enc_form X
      rw [hv] at hM hT1
      clear hv hlt' hle' k
      rcases hv1 with rfl | ⟨t, u, rfl⟩
      all_goals
        go_wp2_with (first
          | (go_at_call 6; (with_reducible refine (hAw.out _).mono ?_); rintro e w1 ⟨rfl, hq1⟩; have hX1 := Aside0.mk hq1; clear hq1; obtain ⟨x0, x1, x2, x3⟩ := cells4m (blk_below hB1'.out hX1.out))
          | (go_at_call 7; (with_reducible refine (hS1.out _ (below_step hBW.out hX1.out)).mono ?_); rintro e w2 ⟨rfl, hq2⟩; have hX2 : Aside0 (Below W.heap.size W w2) := ⟨below_step hX1.out hq2⟩; clear hq2; obtain ⟨y0, y1, y2, y3⟩ := cells4m (blk_below hB1'.out hX2.out))
          | (go_at_call 9; (with_reducible refine (hT1.out _ (below_step hBW.out hX2.out)).mono ?_); rintro e w3 ⟨rfl, hq3⟩; have hX3 : Aside0 (Below W.heap.size W w3) := ⟨below_step hX2.out hq3⟩; clear hq3)
          | (go_at_call 12; (with_reducible refine (hM.out _).mono ?_); rintro e w4 ⟨rfl, hq4⟩; have hX4 : Aside0 (Below W.heap.size W w4) := ⟨below_step hX3.out hq4⟩; clear hq4; obtain ⟨z0, z1, z2, z3⟩ := cells4m (blk_below hB1'.out hX4.out))
          | fail)
        go_ret
        exact ⟨by simp [hk0], below_step hBW.out hX4.out⟩
end Go.Proofs.Ytdhlbhkpleoicaa.Exp
