/- Where timers lie in memory: the program's (a map in a block), the document's (a row). -/
import Derived.Test.YtdfghndcengkaaaPTimersPlayx1
import Derived.Test.YtdfghndcengkaaaTmPure
import Derived.Laws.IdiomRangeMap
import Derived.WalkSpells
namespace Go.Proofs.Ytdfghndcengkaaa.Tmr
open Go.RowKit Go.Proofs.YtdfghndcengkaaaW.PrintWords Go.Proofs.YtdfghndcengkaaaW.PrintLast Go.Proofs.YtdfghndcengkaaaW.PrintMore Go.Proofs.Ytdfghndcengkaaa.PTimersPlay
open Amap Frm
set_option linter.unusedVariables false
set_option linter.unusedSimpArgs false
abbrev ep (g : Nat) : Value := .pointer (some ⟨g, 0, none⟩)
def ek (x : ByteArray) : Value := .string x
def ev (d : Int) : Value := .int .i64 d
def domS (x : ByteArray) : Prop := x.size ≤ 200
def domI (d : Int) : Prop := (Lit.int .i64 d).wf = true
theorem domS_max {x : ByteArray} (h : domS x) : x.size ≤ maxLen := by
  have : (200 : Nat) ≤ maxLen := by decide
  unfold domS at h
  omega
theorem encS : Enc Try.prog 9 ek domS where
  law := Go.Maps.string_keyed Try.underlying9
  key := fun {x} hx => ⟨_, Go.WideMaps.keyOf_string_mk Try.underlying9 (domS_max hx)⟩
  inj := by
    intro x y h
    unfold ek at h
    injection h
structure TAt (ok : Nat → Prop) (w : World) (p : Nat) (T : Tms) (mo : Option Nat) : Prop where
  pk : ok p
  blk : w.heap[p]? = some (.cells #[.map mo] 33 (0, 0))
  map : ∀ b, mo = some b → ok b ∧ MapIs ek ev domS w b T
  none : mo = none → T = []
  vals : ∀ q ∈ T, domI q.2
def IsT (ok : Nat → Prop) (w : World) (p : Nat) (T : Tms) : Prop := ∃ mo, TAt ok w p T mo
structure Fz (ok : Nat → Prop) (w w' : World) : Prop where
  fr : Fr [33, 30] true 0 w w'
  kp : Kp ok w w'
section
variable {ok ok' : Nat → Prop} {w w1 w2 : World} {p b : Nat} {mo : Option Nat} {T T' : Tms}
theorem Fz.refl (ok : Nat → Prop) (w : World) : Fz ok w w := ⟨Fr.refl _ _ _ _, Kp.refl _ _⟩
theorem Fz.trans (h : Fz ok w w1) (k : Fz ok w1 w2) : Fz ok w w2 := ⟨h.fr.trans k.fr, h.kp.trans k.kp⟩
theorem Fz.of_below (h : Below w.heap.size w w1) (ok : Nat → Prop) : Fz ok w w1 := ⟨Fr.of_below (Nat.zero_le _) h _ _, Kp.of_below h _⟩
theorem Fz.set (h : Fz ok w w1) {g t : Nat} {cs : Array Value} (hg : w1.heap[g]? = some (.cells cs t (0, 0))) (ht : t ∈ [33, 30]) (hk : ok g) (j : Nat) (u : Value) : Fz ok w (w1.setCell ⟨g, j, Option.none⟩ u) := ⟨h.fr.set hg ht (Nat.zero_le _) j u, h.kp.set hk j u⟩
theorem Fz.size (h : Fz ok w w1) : w.heap.size ≤ w1.heap.size := h.fr.below.size
theorem Fz.mono (h : Fz ok w w1) (hk : ∀ k, ok k → ok' k) : Fz ok' w w1 := ⟨h.fr, ⟨h.kp.below, fun i hi hn => h.kp.same i hi (fun e => hn (hk i e))⟩⟩
theorem Fz.up {base : Nat} (h : Fz (Frm.up base) w w1) (hb : base ≤ w.heap.size) : Below base w w1 := h.kp.up hb
theorem Fz.map {m : Tms} (h : Fz ok w w1) (hm : MapIs ek ev domS w1 b m) (hb : ok b) (hg : w1.grownBy w2 (some b)) : Fz ok w w2 :=
  ⟨h.fr.grown hg (Nat.zero_le _) (fun g e => ⟨Nat.zero_le _, fun o ho hs => by
    cases e
    obtain ⟨es, c, hb, _⟩ := hm
    rw [hb] at ho
    cases ho
    cases hs⟩), h.kp.grown hg (fun g e => by cases e; exact hb)⟩
theorem TAt.move (h : TAt ok w p T mo) (H : ∀ k, ok k → k < w.heap.size → w1.heap[k]? = w.heap[k]?) : TAt ok w1 p T mo :=
  ⟨h.pk, (H p h.pk (blk_lt h.blk)).trans h.blk, fun b e => ⟨(h.map b e).1, (h.map b e).2.move (H b (h.map b e).1 (h.map b e).2.lt)⟩, h.none, h.vals⟩
theorem TAt.refoot (h : TAt ok w p T mo) (H : ∀ k, ok k → k < w.heap.size → ok' k) : TAt ok' w p T mo :=
  ⟨H p h.pk (blk_lt h.blk), h.blk, fun b e => ⟨H b (h.map b e).1 (h.map b e).2.lt, (h.map b e).2⟩, h.none, h.vals⟩
theorem TAt.below (h : TAt ok w p T mo) (hb : Below w.heap.size w w1) : TAt ok w1 p T mo := h.move (fun k _ hk => hb.block k hk)
theorem IsT.move (h : IsT ok w p T) (H : ∀ k, ok k → k < w.heap.size → w1.heap[k]? = w.heap[k]?) : IsT ok w1 p T := by
  obtain ⟨mo, h⟩ := h
  exact ⟨mo, h.move H⟩
theorem IsT.refoot (h : IsT ok w p T) (H : ∀ k, ok k → k < w.heap.size → ok' k) : IsT ok' w p T := by
  obtain ⟨mo, h⟩ := h
  exact ⟨mo, h.refoot H⟩
theorem IsT.below (h : IsT ok w p T) (hb : Below w.heap.size w w1) : IsT ok w1 p T := h.move (fun k _ hk => hb.block k hk)
theorem TAt.cell (h : TAt ok w p T mo) : w.cell? ⟨p, 0, Option.none⟩ = some (.map mo) := (blk_cell h.blk 0).trans rfl
theorem TAt.far (h : TAt ok w p T (some b)) : p ≠ b := fun e => by
  obtain ⟨es, c, hb, _⟩ := (h.map b rfl).2
  rw [← e, h.blk] at hb
  cases hb
/-- The map's block is written. -/
theorem TAt.wrote (h : TAt ok w p T (some b)) (hm : MapIs ek ev domS w1 b T') (hg : w.grownBy w1 (some b)) (hv : ∀ q ∈ T', domI q.2) : TAt ok w1 p T' (some b) ∧ Fz ok w w1 :=
  ⟨⟨h.pk, blk_grown h.blk hg (fun e => h.far (by cases e; rfl)), fun b' e => by cases e; exact ⟨(h.map b rfl).1, hm⟩, by simp, hv⟩, (Fz.refl ok w).map (h.map b rfl).2 (h.map b rfl).1 hg⟩
theorem vals_put {k : ByteArray} {d : Int} (h : ∀ q ∈ T, domI q.2) (hd : domI d) : ∀ q ∈ mput T k d, domI q.2 := by
  induction T with
  | nil => intro q hq; simp only [mput, List.mem_singleton] at hq; subst hq; exact hd
  | cons p m ih =>
    intro q hq
    unfold mput at hq
    split at hq
    · rcases List.mem_cons.1 hq with rfl | hq
      · exact hd
      · exact h q (List.mem_cons_of_mem _ hq)
    · rcases List.mem_cons.1 hq with rfl | hq
      · exact h _ (List.mem_cons_self ..)
      · exact ih (fun q hq => h q (List.mem_cons_of_mem _ hq)) q hq
theorem TAt.look (h : TAt ok w p T mo) {k : ByteArray} (hk : domS k) : (Instr.lookup 31 (.map mo) (.string k) true).run Try.prog w = .ok (.tuple #[.int .i64 (due T k), .bool (there T k)]) w := by
  cases mo with
  | none =>
    have h1 := lookup_nil (P := Try.prog) (w := w) encS Try.underlying31 (z := .int .i64 0) rfl hk true
    rw [h.none rfl]
    exact h1
  | some b =>
    have h1 := (h.map b rfl).2.lookup encS Try.underlying31 (P := Try.prog) (z := .int .i64 0) rfl hk true
    unfold due there
    cases hx : mlook T k with
    | none => rw [hx] at h1; exact h1
    | some d => rw [hx] at h1; exact h1
theorem TAt.look0 (h : TAt ok w p T mo) {k : ByteArray} (hk : domS k) : (Instr.lookup 31 (.map mo) (.string k) false).run Try.prog w = .ok (.int .i64 (due T k)) w := by
  cases mo with
  | none =>
    have h1 := lookup_nil (P := Try.prog) (w := w) encS Try.underlying31 (z := .int .i64 0) rfl hk false
    rw [h.none rfl]
    exact h1
  | some b =>
    have h1 := (h.map b rfl).2.lookup encS Try.underlying31 (P := Try.prog) (z := .int .i64 0) rfl hk false
    unfold due
    cases hx : mlook T k with
    | none => rw [hx] at h1; exact h1
    | some d => rw [hx] at h1; exact h1
theorem TAt.len (h : TAt ok w p T mo) (ty : TypeId) : (Builtin.len_ #[31] ty #[.map mo]).run Try.prog w = .ok (.int .i64 T.length) w := by
  cases mo with
  | none =>
    rw [h.none rfl]
    exact Amap.len_nil Try.underlying31 ty
  | some b => exact (h.map b rfl).2.len Try.underlying31 ty
end
end Go.Proofs.Ytdfghndcengkaaa.Tmr
