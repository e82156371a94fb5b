/- An expression's kind. -/
import Derived.Test.YtdhlbhkpleoicaaDoorExRForm
namespace Go.Proofs.YtdhlbhkpleoicaaDoor.Exp
open Go.RowKit Go.Proofs.YtdhlbhkpleoicaaDoorW.PrintWords Go.Proofs.YtdhlbhkpleoicaaDoorW.PrintLast Go.Proofs.YtdhlbhkpleoicaaDoorW.PrintMore Go.Proofs.YtdhlbhkpleoicaaDoor.PExprEvals
open Frm
set_option linter.unusedVariables false
set_option linter.unusedSimpArgs false
set_option maxHeartbeats 4000000
set_option maxRecDepth 100000
theorem kind_lit (v : Value) (w : World) : Sem.run Tryd.prog (method 243 48 (.agg #[v]) "Kind") w = .ok (101, .agg #[v]) w := by kernel_rfl
theorem kind_ref (v : Value) (w : World) : Sem.run Tryd.prog (method 243 58 (.agg #[v]) "Kind") w = .ok (103, .agg #[v]) w := by kernel_rfl
theorem kind_not (v : Value) (w : World) : Sem.run Tryd.prog (method 243 60 (.agg #[v]) "Kind") w = .ok (104, .agg #[v]) w := by kernel_rfl
theorem kind_neg (v : Value) (w : World) : Sem.run Tryd.prog (method 243 61 (.agg #[v]) "Kind") w = .ok (105, .agg #[v]) w := by kernel_rfl
theorem kind_bin (v u x : Value) (w : World) : Sem.run Tryd.prog (method 243 50 (.agg #[v, u, x]) "Kind") w = .ok (102, .agg #[v, u, x]) w := by kernel_rfl
theorem KLit_calls (n : Int) (w : World) : Calls Tryd.prog 101 #[.agg #[.int .i64 n]] w fun e w' => e = .returned (.int .i64 1) ∧ Below w.heap.size w w' := by
  go_enter Tryd.func101, Tryd.ntmps101
  go_wp2
  go_ret
  exact ⟨rfl, by repeat (first | exact Below.refl _ _ | refine below_alloc ?_ _)⟩
theorem KRef_calls (s : ByteArray) (w : World) : Calls Tryd.prog 103 #[.agg #[.string s]] w fun e w' => e = .returned (.int .i64 2) ∧ Below w.heap.size w w' := by
  go_enter Tryd.func103, Tryd.ntmps103
  go_wp2
  go_ret
  exact ⟨rfl, by repeat (first | exact Below.refl _ _ | refine below_alloc ?_ _)⟩
theorem KNot_calls (x : Ex) (w : World) : Calls Tryd.prog 104 #[.agg #[enc x]] w fun e w' => e = .returned (.int .i64 3) ∧ Below w.heap.size w w' := by
  obtain ⟨v, hv⟩ : ∃ v, enc x = v := ⟨_, rfl⟩
  have hv1 : v = .nilIface ∨ ∃ t u, v = .iface t u := hv ▸ enc_form x
  rw [hv]
  clear hv
  rcases hv1 with rfl | ⟨t, u, rfl⟩
  all_goals
    go_enter Tryd.func104, Tryd.ntmps104
    go_wp2
    go_ret
    exact ⟨rfl, by repeat (first | exact Below.refl _ _ | refine below_alloc ?_ _)⟩
theorem KNeg_calls (x : Ex) (w : World) : Calls Tryd.prog 105 #[.agg #[enc x]] w fun e w' => e = .returned (.int .i64 4) ∧ Below w.heap.size w w' := by
  obtain ⟨v, hv⟩ : ∃ v, enc x = v := ⟨_, rfl⟩
  have hv1 : v = .nilIface ∨ ∃ t u, v = .iface t u := hv ▸ enc_form x
  rw [hv]
  clear hv
  rcases hv1 with rfl | ⟨t, u, rfl⟩
  all_goals
    go_enter Tryd.func105, Tryd.ntmps105
    go_wp2
    go_ret
    exact ⟨rfl, by repeat (first | exact Below.refl _ _ | refine below_alloc ?_ _)⟩
theorem KBin_calls (op : ByteArray) (x y : Ex) (w : World) : Calls Tryd.prog 102 #[.agg #[.string op, enc x, enc y]] w fun e w' => e = .returned (.int .i64 5) ∧ Below w.heap.size w w' := by
  obtain ⟨v, hv⟩ : ∃ v, enc x = v := ⟨_, rfl⟩
  obtain ⟨v2, hv2⟩ : ∃ v, enc y = v := ⟨_, rfl⟩
  have hv1 : v = .nilIface ∨ ∃ t u, v = .iface t u := hv ▸ enc_form x
  have hv3 : v2 = .nilIface ∨ ∃ t u, v2 = .iface t u := hv2 ▸ enc_form y
  rw [hv, hv2]
  clear hv hv2
  rcases hv1 with rfl | ⟨t, u, rfl⟩ <;> rcases hv3 with rfl | ⟨t2, u2, rfl⟩
  all_goals
    go_enter Tryd.func102, Tryd.ntmps102
    go_wp2
    go_ret
    exact ⟨rfl, by repeat (first | exact Below.refl _ _ | refine below_alloc ?_ _)⟩
/-- The kind is the node's own, where there is an expression. -/
theorem kind_own (x : S24) (h : theirs x ≠ .none) : x.f0 = (toN (theirs x)).f0 := by
  rw [theirs_eq] at h ⊢
  by_cases h1 : x.f0 = 1
  · rw [if_pos h1]; exact h1
  rw [if_neg h1] at h ⊢
  by_cases h2 : x.f0 = 2
  · rw [if_pos h2]; exact h2
  rw [if_neg h2] at h ⊢
  by_cases h3 : x.f0 = 3
  · rw [if_pos h3]; exact h3
  rw [if_neg h3] at h ⊢
  by_cases h4 : x.f0 = 4
  · rw [if_pos h4]; exact h4
  rw [if_neg h4] at h ⊢
  by_cases h5 : x.f0 = 5
  · rw [if_pos h5]; exact h5
  rw [if_neg h5] at h
  exact absurd rfl h
theorem nodes_eq (x : Ex) : cnt x 40 = nd x := cnt_tot x 40 (by omega)
theorem keep4n {W w' : World} {b : Nat} {k n : Int} {s : ByteArray} {v : Value} (h : W.heap[b]? = some (.cells #[.int .i64 k, .int .i64 n, .string s, v] 24 (0, 0))) (hb : Below W.heap.size W w') :
    w'.cell? ⟨b, 0, none⟩ = some (.int .i64 k) ∧ w'.cell? ⟨b, 1, none⟩ = some (.int .i64 n) ∧ w'.cell? ⟨b, 2, none⟩ = some (.string s) ∧ w'.cell? ⟨b, 3, none⟩ = some v :=
  let ⟨a, c, d, e, _⟩ := cells4n (blk_below h hb)
  ⟨a, c, d, e⟩
end Go.Proofs.YtdhlbhkpleoicaaDoor.Exp
