/- Expressions as plain trees, and how an interface's value writes them. -/
import Derived.Test.YtdhlbhkpleoicaaDoorWMore
import Derived.WalkSpells
import Derived.WalkKit
import Derived.Deep.QuietTactic
import Derived.BigQuiet
import Derived.Outline
import Derived.Test.YtdhlbhkpleoicaaDoorProg
namespace Go.Proofs.YtdhlbhkpleoicaaDoor.Exp
open Go.RowKit Go.Proofs.YtdhlbhkpleoicaaDoorW.PrintWords Go.Proofs.YtdhlbhkpleoicaaDoorW.PrintLast Go.Proofs.YtdhlbhkpleoicaaDoorW.PrintMore
set_option linter.unusedVariables false
set_option linter.unusedSimpArgs false

inductive Ex where
  | none
  | lit (n : Int)
  | ref (s : ByteArray)
  | not (x : Ex)
  | neg (x : Ex)
  | bin (op : ByteArray) (l r : Ex)
def enc : Ex → Value
  | .none => .nilIface
  | .lit n => .iface 48 (.agg #[.int .i64 n])
  | .ref s => .iface 58 (.agg #[.string s])
  | .not x => .iface 60 (.agg #[enc x])
  | .neg x => .iface 61 (.agg #[enc x])
  | .bin op l r => .iface 50 (.agg #[.string op, enc l, enc r])
theorem enc_one : ∀ x, (enc x).oneCell' = true
  | .none => rfl
  | .lit _ => rfl
  | .ref _ => rfl
  | .not _ => rfl
  | .neg _ => rfl
  | .bin _ _ _ => rfl
def kEx : Kd Ex := Kd.scalar enc enc_one
theorem ta_nil_35 (W : World) : (Instr.typeAssert .nilIface 33 60 true).run Tryd.prog W = .ok (.tuple #[.agg #[.nilIface], .bool false]) W := by kernel_rfl
theorem ta_35_35 (v : Value) (W : World) : (Instr.typeAssert (.iface 60 v) 33 60 true).run Tryd.prog W = .ok (.tuple #[v, .bool true]) W := by kernel_rfl
theorem ta_54_35 (v : Value) (W : World) : (Instr.typeAssert (.iface 61 v) 33 60 true).run Tryd.prog W = .ok (.tuple #[.agg #[.nilIface], .bool false]) W := by kernel_rfl
theorem ta_33_35 (v : Value) (W : World) : (Instr.typeAssert (.iface 50 v) 33 60 true).run Tryd.prog W = .ok (.tuple #[.agg #[.nilIface], .bool false]) W := by kernel_rfl
theorem ta_47_35 (v : Value) (W : World) : (Instr.typeAssert (.iface 48 v) 33 60 true).run Tryd.prog W = .ok (.tuple #[.agg #[.nilIface], .bool false]) W := by kernel_rfl
theorem ta_53_35 (v : Value) (W : World) : (Instr.typeAssert (.iface 58 v) 33 60 true).run Tryd.prog W = .ok (.tuple #[.agg #[.nilIface], .bool false]) W := by kernel_rfl
theorem ta_nil_54 (W : World) : (Instr.typeAssert .nilIface 33 61 true).run Tryd.prog W = .ok (.tuple #[.agg #[.nilIface], .bool false]) W := by kernel_rfl
theorem ta_35_54 (v : Value) (W : World) : (Instr.typeAssert (.iface 60 v) 33 61 true).run Tryd.prog W = .ok (.tuple #[.agg #[.nilIface], .bool false]) W := by kernel_rfl
theorem ta_54_54 (v : Value) (W : World) : (Instr.typeAssert (.iface 61 v) 33 61 true).run Tryd.prog W = .ok (.tuple #[v, .bool true]) W := by kernel_rfl
theorem ta_33_54 (v : Value) (W : World) : (Instr.typeAssert (.iface 50 v) 33 61 true).run Tryd.prog W = .ok (.tuple #[.agg #[.nilIface], .bool false]) W := by kernel_rfl
theorem ta_47_54 (v : Value) (W : World) : (Instr.typeAssert (.iface 48 v) 33 61 true).run Tryd.prog W = .ok (.tuple #[.agg #[.nilIface], .bool false]) W := by kernel_rfl
theorem ta_53_54 (v : Value) (W : World) : (Instr.typeAssert (.iface 58 v) 33 61 true).run Tryd.prog W = .ok (.tuple #[.agg #[.nilIface], .bool false]) W := by kernel_rfl
theorem ta_nil_33 (W : World) : (Instr.typeAssert .nilIface 33 50 true).run Tryd.prog W = .ok (.tuple #[.agg #[.string ⟨#[]⟩, .nilIface, .nilIface], .bool false]) W := by kernel_rfl
theorem ta_35_33 (v : Value) (W : World) : (Instr.typeAssert (.iface 60 v) 33 50 true).run Tryd.prog W = .ok (.tuple #[.agg #[.string ⟨#[]⟩, .nilIface, .nilIface], .bool false]) W := by kernel_rfl
theorem ta_54_33 (v : Value) (W : World) : (Instr.typeAssert (.iface 61 v) 33 50 true).run Tryd.prog W = .ok (.tuple #[.agg #[.string ⟨#[]⟩, .nilIface, .nilIface], .bool false]) W := by kernel_rfl
theorem ta_33_33 (v : Value) (W : World) : (Instr.typeAssert (.iface 50 v) 33 50 true).run Tryd.prog W = .ok (.tuple #[v, .bool true]) W := by kernel_rfl
theorem ta_47_33 (v : Value) (W : World) : (Instr.typeAssert (.iface 48 v) 33 50 true).run Tryd.prog W = .ok (.tuple #[.agg #[.string ⟨#[]⟩, .nilIface, .nilIface], .bool false]) W := by kernel_rfl
theorem ta_53_33 (v : Value) (W : World) : (Instr.typeAssert (.iface 58 v) 33 50 true).run Tryd.prog W = .ok (.tuple #[.agg #[.string ⟨#[]⟩, .nilIface, .nilIface], .bool false]) W := by kernel_rfl
theorem ta_nil_47 (W : World) : (Instr.typeAssert .nilIface 33 48 true).run Tryd.prog W = .ok (.tuple #[.agg #[.int .i64 0], .bool false]) W := by kernel_rfl
theorem ta_35_47 (v : Value) (W : World) : (Instr.typeAssert (.iface 60 v) 33 48 true).run Tryd.prog W = .ok (.tuple #[.agg #[.int .i64 0], .bool false]) W := by kernel_rfl
theorem ta_54_47 (v : Value) (W : World) : (Instr.typeAssert (.iface 61 v) 33 48 true).run Tryd.prog W = .ok (.tuple #[.agg #[.int .i64 0], .bool false]) W := by kernel_rfl
theorem ta_33_47 (v : Value) (W : World) : (Instr.typeAssert (.iface 50 v) 33 48 true).run Tryd.prog W = .ok (.tuple #[.agg #[.int .i64 0], .bool false]) W := by kernel_rfl
theorem ta_47_47 (v : Value) (W : World) : (Instr.typeAssert (.iface 48 v) 33 48 true).run Tryd.prog W = .ok (.tuple #[v, .bool true]) W := by kernel_rfl
theorem ta_53_47 (v : Value) (W : World) : (Instr.typeAssert (.iface 58 v) 33 48 true).run Tryd.prog W = .ok (.tuple #[.agg #[.int .i64 0], .bool false]) W := by kernel_rfl
theorem ta_nil_53 (W : World) : (Instr.typeAssert .nilIface 33 58 true).run Tryd.prog W = .ok (.tuple #[.agg #[.string ⟨#[]⟩], .bool false]) W := by kernel_rfl
theorem ta_35_53 (v : Value) (W : World) : (Instr.typeAssert (.iface 60 v) 33 58 true).run Tryd.prog W = .ok (.tuple #[.agg #[.string ⟨#[]⟩], .bool false]) W := by kernel_rfl
theorem ta_54_53 (v : Value) (W : World) : (Instr.typeAssert (.iface 61 v) 33 58 true).run Tryd.prog W = .ok (.tuple #[.agg #[.string ⟨#[]⟩], .bool false]) W := by kernel_rfl
theorem ta_33_53 (v : Value) (W : World) : (Instr.typeAssert (.iface 50 v) 33 58 true).run Tryd.prog W = .ok (.tuple #[.agg #[.string ⟨#[]⟩], .bool false]) W := by kernel_rfl
theorem ta_47_53 (v : Value) (W : World) : (Instr.typeAssert (.iface 48 v) 33 58 true).run Tryd.prog W = .ok (.tuple #[.agg #[.string ⟨#[]⟩], .bool false]) W := by kernel_rfl
theorem ta_53_53 (v : Value) (W : World) : (Instr.typeAssert (.iface 58 v) 33 58 true).run Tryd.prog W = .ok (.tuple #[v, .bool true]) W := by kernel_rfl
attribute [local go_sem] ta_nil_35 ta_35_35 ta_54_35 ta_33_35 ta_47_35 ta_53_35 ta_nil_54 ta_35_54 ta_54_54 ta_33_54 ta_47_54 ta_53_54 ta_nil_33 ta_35_33 ta_54_33 ta_33_33 ta_47_33 ta_53_33 ta_nil_47 ta_35_47 ta_54_47 ta_33_47 ta_47_47 ta_53_47 ta_nil_53 ta_35_53 ta_54_53 ta_33_53 ta_47_53 ta_53_53
def ops : Ex → List Ex
  | .not x => [x]
  | .neg x => [x]
  | .bin _ l r => [l, r]
  | _ => []
theorem enc_form (x : Ex) : enc x = .nilIface ∨ ∃ t u, enc x = .iface t u := by
  cases x
  · exact .inl rfl
  all_goals exact .inr ⟨_, _, rfl⟩
theorem R_empty (w : World) (base : Nat) : Kd.R kEx 33 w base (fun _ => True) (.slice none 0 0) [] := Kd.R_nil _ _ _ _ _
theorem blk_new_at {w : World} {o : Obj} {g : Nat} (h : w.heap.size = g) : (w.alloc o).heap[g]? = some o := by subst h; exact blk_new _ _
/-- A literal of expressions. -/
theorem R_lit {w : World} {g base : Nat} (xs : List Ex) (hx : xs ≠ []) (hl : xs.length ≤ 1000) (hb : base ≤ g) (hg : w.heap[g]? = some (.cells (xs.map enc).toArray 33 (0, 0))) : Kd.R kEx 33 w base (fun _ => True) (.slice (some ⟨g, 0, none⟩) xs.length xs.length) xs := by
  refine ⟨fun _ _ => trivial, xs.map enc, ⟨by simp [kEx, Kd.scalar], .inr ⟨g, xs.length, _, rfl, hb, hg, Nat.le_refl _, by unfold maxLen; omega, by simp [kEx, Kd.scalar], by simp [kEx, Kd.scalar]; exact List.take_of_length_le (by simp)⟩⟩, by simp [kEx, Kd.scalar], fun j p hj => ?_⟩
  have hlt := (List.getElem?_eq_some_iff.1 hj).1
  show ((xs.map enc).drop (j * 1)).take 1 = [enc p]
  rw [Nat.mul_one, List.drop_eq_getElem_cons (by simpa using hlt)]
  simp only [List.take_succ_cons, List.take_zero, List.getElem_map]
  rw [(List.getElem?_eq_some_iff.1 hj).2]
set_option maxHeartbeats 2000000 in
set_option maxRecDepth 100000 in
theorem operands_calls (x : Ex) (w : World) : Calls Tryd.prog 28 #[enc x] w fun e w' => ∃ v, e = .returned v ∧ Kd.R kEx 33 w' w.heap.size (fun _ => True) v (ops x) ∧ Below w.heap.size w w' := by
  have hbel : ∀ w', (∃ n, w' = w.drewN n) ∨ True → True := fun _ _ => trivial
  cases x with
  | none =>
    unfold enc ops
    go_enter Tryd.func28, Tryd.ntmps28
    go_wp2
    go_ret
    exact ⟨_, rfl, R_empty _ _, by repeat (first | exact Below.refl _ _ | refine below_alloc ?_ _)⟩
  | lit n =>
    unfold enc ops
    go_enter Tryd.func28, Tryd.ntmps28
    go_wp2
    go_ret
    exact ⟨_, rfl, R_empty _ _, by repeat (first | exact Below.refl _ _ | refine below_alloc ?_ _)⟩
  | ref n =>
    unfold enc ops
    go_enter Tryd.func28, Tryd.ntmps28
    go_wp2
    go_ret
    exact ⟨_, rfl, R_empty _ _, by repeat (first | exact Below.refl _ _ | refine below_alloc ?_ _)⟩
  | not x =>
    unfold enc ops
    rcases enc_form x with h | ⟨t, u, h⟩ <;> rw [h] <;>
    · have h' := Aside0.mk h
      clear h
      go_enter Tryd.func28, Tryd.ntmps28
      go_wp2
      go_ret
      refine ⟨_, rfl, R_lit [x] (by simp) (by simp) ?_ ?_, by repeat (first | exact Below.refl _ _ | refine below_alloc ?_ _)⟩
      · simp
      · simp only [List.map_cons, List.map_nil, h'.out]
        exact blk_new_at (by simp)
  | neg x =>
    unfold enc ops
    rcases enc_form x with h | ⟨t, u, h⟩ <;> rw [h] <;>
    · have h' := Aside0.mk h
      clear h
      go_enter Tryd.func28, Tryd.ntmps28
      go_wp2
      go_ret
      refine ⟨_, rfl, R_lit [x] (by simp) (by simp) ?_ ?_, by repeat (first | exact Below.refl _ _ | refine below_alloc ?_ _)⟩
      · omega
      · simp only [List.map_cons, List.map_nil, h'.out]
        exact blk_new_at (by simp)
  | bin op x y =>
    unfold enc ops
    rcases enc_form x with h | ⟨t, u, h⟩ <;> rw [h] <;> rcases enc_form y with h2 | ⟨t2, u2, h2⟩ <;> rw [h2] <;>
    · have h' := Aside0.mk h
      have h2' := Aside0.mk h2
      clear h h2
      go_enter Tryd.func28, Tryd.ntmps28
      go_wp2
      go_ret
      refine ⟨_, rfl, R_lit [x, y] (by simp) (by simp) ?_ ?_, by repeat (first | exact Below.refl _ _ | refine below_alloc ?_ _)⟩
      · omega
      · simp only [List.map_cons, List.map_nil, h'.out, h2'.out]
        exact blk_new_at (by simp)
end Go.Proofs.YtdhlbhkpleoicaaDoor.Exp
