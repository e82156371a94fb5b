/- Where outboxes lie in memory. -/
import Derived.Test.YtdglbiafpofeeaaFrames
import Derived.Test.YtdglbiafpofeeaaOutNil
import Derived.Test.YtdglbiafpofeeaaOutPure
namespace Go.Proofs.Ytdglbiafpofeeaa.Obx
open Go.RowKit Go.Proofs.YtdglbiafpofeeaaW.PrintWords Go.Proofs.YtdglbiafpofeeaaW.PrintLast Go.Proofs.YtdglbiafpofeeaaW.PrintMore Go.Proofs.Ytdglbiafpofeeaa.POutboxNil
open Frm
set_option linter.unusedVariables false
set_option linter.unusedSimpArgs false
def kLt : Kd Lt := Kd.iso (Kd.pair (Kd.int .i64) (Kd.pair (Kd.int .i64) (Kd.pair (Kd.int .i64) (Kd.pair (Kd.int .i64) (Kd.pair Kd.string (Kd.pair (Kd.int .i64) Kd.bool)))))) (fun x : Lt => (x.to, x.kind, x.inst, x.turn, x.name, x.att, x.ok))
def ltC (x : Lt) : List Value := [.int .i64 x.to, .int .i64 x.kind, .int .i64 x.inst, .int .i64 x.turn, .string x.name, .int .i64 x.att, .bool x.ok]
def ltV (x : Lt) : Value := .agg #[.int .i64 x.to, .int .i64 x.kind, .int .i64 x.inst, .int .i64 x.turn, .string x.name, .int .i64 x.att, .bool x.ok]
theorem kLt_open {w : World} {x : Lt} {cs : List Value} (h : kLt.K w x cs) : cs = ltC x := by
  obtain ⟨_, _, rfl, rfl, ⟨_, _, rfl, rfl, ⟨_, _, rfl, rfl, ⟨_, _, rfl, rfl, ⟨_, _, rfl, rfl, ⟨_, _, rfl, rfl, rfl⟩⟩⟩⟩⟩⟩ := h
  rfl
theorem kLt_mk (w : World) (base : Nat) (ok : Nat → Prop) (x : Lt) : kLt.M w base ok x (ltC x) :=
  ⟨[_], [_, _, _, _, _, _], rfl, rfl, ⟨[_], [_, _, _, _, _], rfl, rfl, ⟨[_], [_, _, _, _], rfl, rfl, ⟨[_], [_, _, _], rfl, rfl, ⟨[_], [_, _], rfl, rfl, ⟨[_], [_], rfl, rfl, rfl⟩⟩⟩⟩⟩⟩
theorem kLt_sz : kLt.sz = 7 := rfl
theorem kLt_E : kLt.E = [] := rfl
/-- A letter's cells. -/
def Has (w : World) (a : Addr) (x : Lt) : Prop :=
  w.cell? a = some (.int .i64 x.to) ∧ w.cell? ⟨a.block, a.off + 1, none⟩ = some (.int .i64 x.kind) ∧ w.cell? ⟨a.block, a.off + 2, none⟩ = some (.int .i64 x.inst) ∧ w.cell? ⟨a.block, a.off + 3, none⟩ = some (.int .i64 x.turn) ∧ w.cell? ⟨a.block, a.off + 4, none⟩ = some (.string x.name) ∧ w.cell? ⟨a.block, a.off + 5, none⟩ = some (.int .i64 x.att) ∧ w.cell? ⟨a.block, a.off + 6, none⟩ = some (.bool x.ok)
theorem at_Lt {w : World} {A : Option Addr} {n : Nat} {xs : List Lt} (h : Kd.C kLt w A n xs) {i : Nat} {x : Lt} (hx : xs[i]? = some x) : ∃ ad, A = some ad ∧ Has w (ad.add (i * 7)) x := by
  have hil : i < xs.length := (List.getElem?_eq_some_iff.1 hx).1
  have hn : xs.length = n := Kd.C_len h
  obtain ⟨ad, c, e, _, hK, hc0⟩ := Kd.C_get h lt0 (i : Int) (by omega) (by omega)
  have hge : xs.getD ((i : Int)).toNat lt0 = x := by simp [List.getD_eq_getElem?_getD, hx]
  rw [hge] at hK
  obtain rfl := kLt_open hK
  rw [kLt_sz, show ((i : Int)).toNat = i from by simp] at hc0
  exact ⟨ad, e, hc0 0 _ rfl, by rw [← add_field _ _ 1 (by omega)]; exact hc0 1 _ rfl, by rw [← add_field _ _ 2 (by omega)]; exact hc0 2 _ rfl, by rw [← add_field _ _ 3 (by omega)]; exact hc0 3 _ rfl, by rw [← add_field _ _ 4 (by omega)]; exact hc0 4 _ rfl, by rw [← add_field _ _ 5 (by omega)]; exact hc0 5 _ rfl, by rw [← add_field _ _ 6 (by omega)]; exact hc0 6 _ rfl⟩
/-- .. in a row of one's own. -/
theorem el7 {w : World} {e base g n cap : Nat} {ok : Nat → Prop} {xs : List Lt} (h : Kd.R kLt e w base ok (.slice (some ⟨g, 0, none⟩) n cap) xs) {i : Nat} {x : Lt} (hx : xs[i]? = some x) :
    w.cell? ⟨g, i * 7, none⟩ = some (.int .i64 x.to) ∧ w.cell? ⟨g, i * 7 + 1, none⟩ = some (.int .i64 x.kind) ∧ w.cell? ⟨g, i * 7 + 2, none⟩ = some (.int .i64 x.inst) ∧ w.cell? ⟨g, i * 7 + 3, none⟩ = some (.int .i64 x.turn) ∧ w.cell? ⟨g, i * 7 + 4, none⟩ = some (.string x.name) ∧ w.cell? ⟨g, i * 7 + 5, none⟩ = some (.int .i64 x.att) ∧ w.cell? ⟨g, i * 7 + 6, none⟩ = some (.bool x.ok) := by
  obtain ⟨hn, _, hC⟩ := Kd.R_reads' h
  obtain ⟨ad, e1, h7⟩ := at_Lt hC hx
  cases e1
  rw [add_plain] at h7
  exact h7
structure OAt (t e : Nat) (ok : Nat → Prop) (w : World) (p : Nat) (L : List Lt) (v : Value) : Prop where
  pk : ok p
  blk : w.heap[p]? = some (.cells #[v] t (0, 0))
  row : Kd.R kLt e w 0 (fun k => ok k ∧ k ≠ p) v L
/-- An outbox (type t, letters of type e) lies at p; its blocks are ok. -/
def IsO (t e : Nat) (ok : Nat → Prop) (w : World) (p : Nat) (L : List Lt) : Prop := ∃ v, OAt t e ok w p L v
section
variable {t e : Nat} {ok ok' : Nat → Prop} {w w1 : World} {p : Nat} {L : List Lt} {v : Value}
theorem OAt.below (h : OAt t e ok w p L v) (hb : Below w.heap.size w w1) : OAt t e ok w1 p L v := ⟨h.pk, blk_below h.blk hb, Kd.R_below h.row hb⟩
theorem IsO.below (h : IsO t e ok w p L) (hb : Below w.heap.size w w1) : IsO t e ok w1 p L := by
  obtain ⟨v, h⟩ := h
  exact ⟨v, h.below hb⟩
theorem IsO.refoot (h : IsO t e ok w p L) (H : ∀ k, ok k → k < w.heap.size → ok' k) : IsO t e ok' w p L := by
  obtain ⟨v, h⟩ := h
  exact ⟨v, H p h.pk (blk_lt h.blk), h.blk, Kd.R_mono (Kd.R_bound h.row) (fun k hk => ⟨H k hk.1.1 hk.2.2.1, hk.1.2⟩)⟩
theorem IsO.move (h : IsO t e ok w p L) (H : ∀ k, ok k → k < w.heap.size → w1.heap[k]? = w.heap[k]?) : IsO t e ok w1 p L := by
  obtain ⟨v, h⟩ := h
  exact ⟨v, h.pk, (H p h.pk (blk_lt h.blk)).trans h.blk, Kd.R_mono (Kd.R_move (Kd.R_bound h.row) (fun k hk => H k hk.1.1 hk.2.2.1)) (fun k hk => hk.1)⟩
theorem OAt.form (h : OAt t e ok w p L v) : ∃ A cap, v = .slice A L.length cap ∧ L.length ≤ cap ∧ Kd.C kLt w A L.length L := by
  obtain ⟨A, c, rfl, hc, hC⟩ := Kd.R_reads h.row
  exact ⟨A, c, rfl, hc, hC⟩
theorem OAt.cell (h : OAt t e ok w p L v) : w.cell? ⟨p, 0, none⟩ = some v := (blk_cell h.blk 0).trans rfl
/-- The outbox has another row. -/
theorem OAt.store (h : OAt t e ok w p L v) {L' : List Lt} {v' : Value} (hp : w1.heap[p]? = some (.cells #[v] t (0, 0))) (hR : Kd.R kLt e w1 0 (fun k => ok k ∧ k ≠ p) v' L') : OAt t e ok (w1.setCell ⟨p, 0, none⟩ v') p L' v' := by
  refine ⟨h.pk, ?_, Kd.R_far hR (fun k hk => hk.2) v'⟩
  have := blk_set hp 0 v'
  simpa using this
theorem o_new (t e : Nat) (ok : Nat → Prop) (w : World) (hb : ok w.heap.size) : IsO t e ok (w.alloc (.cells #[.slice none 0 0] t)) w.heap.size [] := ⟨_, hb, blk_new _ _, Kd.R_nil _ _ _ _ _⟩
end
theorem infoLt59 : (Try.prog.info? 59).map (fun i => (i.zero, i.size, i.bytes)) = some (some (.agg #[.int .i64 0, .int .i64 0, .int .i64 0, .int .i64 0, .string ⟨#[]⟩, .int .i64 0, .bool false]), 7, 64) := by kernel_rfl
theorem infoLt75 : (Try.prog.info? 75).map (fun i => (i.zero, i.size, i.bytes)) = some (some (.agg #[.int .i64 0, .int .i64 0, .int .i64 0, .int .i64 0, .string ⟨#[]⟩, .int .i64 0, .bool false]), 7, 64) := by kernel_rfl
end Go.Proofs.Ytdglbiafpofeeaa.Obx
