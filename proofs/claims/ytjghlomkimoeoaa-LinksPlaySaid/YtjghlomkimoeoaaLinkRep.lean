/- Where links lie in memory, and what may turn. -/
import Derived.Test.YtjghlomkimoeoaaAmap
import Derived.Test.YtjghlomkimoeoaaWMore
import Derived.Test.YtjghlomkimoeoaaPLinksPlayx1
import Derived.WideKeyPair
import Derived.DeepKeys4
import Derived.WalkSpells
import Derived.WalkKit
import Derived.Outline
namespace Go.Proofs.Ytjghlomkimoeoaa.Lnk
open Go.RowKit Go.Proofs.YtjghlomkimoeoaaW.PrintWords Go.Proofs.YtjghlomkimoeoaaW.PrintLast Go.Proofs.YtjghlomkimoeoaaW.PrintMore Go.Proofs.Ytjghlomkimoeoaa.PLinksPlay
open Amap
set_option linter.unusedVariables false
set_option linter.unusedSimpArgs false

/-! ### what may turn -/
/-- An object that is left as it is: no cells of these types, and no map (where maps may turn). -/
def Still (T : List Nat) (mp : Bool) : Obj → Prop
  | .cells _ t _ => t ∉ T
  | .map _ _ => mp = false
  | _ => True
structure Fr (T : List Nat) (mp : Bool) (base : Nat) (w w' : World) : Prop where
  below : Below base w w'
  same : ∀ (i : Nat) (o : Obj), w.heap[i]? = some o → Still T mp o → w'.heap[i]? = some o
section
variable {T : List Nat} {mp : Bool} {base : Nat} {w w1 w2 : World}
theorem Fr.refl (T : List Nat) (mp : Bool) (base : Nat) (w : World) : Fr T mp base w w := ⟨Below.refl _ _, fun _ _ h _ => h⟩
theorem Fr.trans (h : Fr T mp base w w1) (k : Fr T mp base w1 w2) : Fr T mp base w w2 := ⟨h.below.trans k.below, fun i o ho hs => k.same i o (h.same i o ho hs) hs⟩
theorem Fr.of_below (hb : base ≤ w.heap.size) (h : Below w.heap.size w w1) (T : List Nat) (mp : Bool) : Fr T mp base w w1 := ⟨h.mono hb, fun i o ho _ => (h.block i (blk_lt ho)).trans ho⟩
theorem Fr.drew (h : Fr T mp base w w1) : Fr T mp base w w1.drew := ⟨h.below.drew, h.same⟩
theorem Fr.drewN (h : Fr T mp base w w1) (n : Nat) : Fr T mp base w (w1.drewN n) := ⟨pw_below_drewN h.below n, h.same⟩
theorem Fr.alloc (h : Fr T mp base w w1) (hb : base ≤ w.heap.size) (o : Obj) : Fr T mp base w (w1.alloc o) :=
  ⟨h.below.alloc (Nat.le_trans hb h.below.size) o, fun i o' ho hs => blk_alloc (h.same i o' ho hs) o⟩
theorem Fr.set (h : Fr T mp base w w1) {g t : Nat} {cs : Array Value} {z : Nat × Nat} (hg : w1.heap[g]? = some (.cells cs t z)) (ht : t ∈ T) (hb : base ≤ g) (j : Nat) (u : Value) : Fr T mp base w (w1.setCell ⟨g, j, none⟩ u) :=
  ⟨h.below.setCell hb _, fun i o ho hs => by
    have h1 := h.same i o ho hs
    by_cases e : i = g
    · subst e
      rw [hg] at h1
      cases h1
      exact absurd ht hs
    · exact (Below.heap_setCell w1 ⟨g, j, none⟩ u i e).trans h1⟩
theorem Fr.keep (h : Fr T mp base w w1) {g t : Nat} {cs : Array Value} {z : Nat × Nat} (hg : w1.heap[g]? = some (.cells cs t z)) (ht : t ∈ T) (hb : Below base w1 w2) (k : KeepBut w1 w2 g none) : Fr T mp base w w2 :=
  ⟨h.below.trans hb, fun i o ho hs => by
    have h1 := h.same i o ho hs
    by_cases e : i = g
    · subst e
      rw [hg] at h1
      cases h1
      exact absurd ht hs
    · exact (k.2 i (blk_lt h1) e (by simp)).trans h1⟩
theorem Fr.grown (h : Fr T mp base w w1) {row : Option Nat} (hg : w1.grownBy w2 row) (hbase : base ≤ w1.heap.size) (hr : ∀ g, row = some g → base ≤ g ∧ ∀ o, w1.heap[g]? = some o → ¬ Still T mp o) : Fr T mp base w w2 :=
  ⟨h.below.grown hg hbase (fun g e => (hr g e).1), fun i o ho hs => by
    have h1 := h.same i o ho hs
    by_cases e : row = some i
    · exact absurd hs ((hr i e).2 o h1)
    · exact (hg.block i (blk_lt h1) (fun e1 => e e1.symm)).trans h1⟩
end

theorem R_fr {α : Type} {d : Kd α} {e : Nat} {w w1 : World} {base base' : Nat} {ok : Nat → Prop} {v : Value} {xs : List α} {T : List Nat} {mp : Bool} (h : d.R e w base ok v xs) (f : Fr T mp base' w w1) (ht : ∀ q, q ∈ e :: d.E → q ∉ T) : d.R e w1 base ok v xs :=
  Kd.R_mono (Kd.R_move (Kd.R_bound h) (fun k hk => by
    obtain ⟨_, _, _, q, hq, cells, hc⟩ := hk
    rw [hc]
    exact f.same k _ hc (ht q hq))) (fun _ hk => hk.1)

theorem Fr.set_new {T : List Nat} {mp : Bool} {base : Nat} {w w1 : World} (h : Fr T mp base w w1) {g : Nat} (hg : w.heap.size ≤ g) (hb : base ≤ g) (j : Nat) (u : Value) : Fr T mp base w (w1.setCell ⟨g, j, none⟩ u) :=
  ⟨h.below.setCell hb _, fun i o ho hs => by
    have := blk_lt ho
    exact (Below.heap_setCell w1 ⟨g, j, none⟩ u i (by simp only; omega)).trans (h.same i o ho hs)⟩
theorem Fr.mono {T T' : List Nat} {mp mp' : Bool} {base : Nat} {w w1 : World} (h : Fr T mp base w w1) (hT : ∀ t, t ∈ T → t ∈ T') (hm : mp = true → mp' = true) : Fr T' mp' base w w1 :=
  ⟨h.below, fun i o ho hs => h.same i o ho (by
    cases o <;> simp only [Still] at hs ⊢
    · exact fun e => hs (hT _ e)
    · cases mp <;> simp_all)⟩
theorem bcell {W w1 : World} (hb : Below W.heap.size W w1) : (∀ b o, b < W.heap.size → w1.cell? ⟨b, o, none⟩ = W.cell? ⟨b, o, none⟩) ∧ (∀ b o, b < W.heap.size → w1.frozen? ⟨b, o, none⟩ = W.frozen? ⟨b, o, none⟩) :=
  ⟨fun b o h => hb.cell (p := ⟨b, o, none⟩) h, fun b o h => hb.frozen (p := ⟨b, o, none⟩) h⟩
theorem wp_world {P : Program} {c : Code} {K : Exit → Act → World → Prop} {a : Act} {w : World} (h : ∀ W, W = w → Code.wp P c K a W) : Code.wp P c K a w := h w rfl

/-! ### links as plain data -/
abbrev Key := Int × Int
structure LSt where
  parties : Int
  L : List (Key × List (List Int))
def tot : List (Key × List (List Int)) → Nat
  | [] => 0
  | q :: r => q.2.length + tot r
def line (L : List (Key × List (List Int))) (k : Key) : List (List Int) := (mlook L k).getD []
def party (S : LSt) (n : Int) : Bool := decide (0 ≤ n) && decide (n < S.parties)
def there (S : LSt) (k : Key) : Bool := party S k.1 && party S k.2 && !decide (k.1 = k.2)
def send (S : LSt) (k : Key) (b : List Int) : LSt × Int :=
  if there S k = false then (S, 5) else if 100 ≤ tot S.L then (S, 7) else (⟨S.parties, mput S.L k (line S.L k ++ [b])⟩, 0)

/-! ### in memory -/
def ekey (k : Key) : Value := .agg #[.int .i64 k.1, .int .i64 k.2]
def domK (k : Key) : Prop := (Lit.int .i64 k.1).wf = true ∧ (Lit.int .i64 k.2).wf = true
abbrev Ln := Value × List (List Int)
def lval (x : Ln) : Value := x.1
def kB : Kd (List Int) := Kd.slice 5 (Kd.int .u8)
theorem law116 : Go.Maps.Keyed Try.prog 116 := Go.Maps.Keyed.of_law (deep_law_laid (by kernel_rfl) (m := 2) (by omega) (of_decide_eq_true (by kernel_rfl)) (by kernel_rfl) (by rw [Try.underlying116]))
theorem encK : Enc Try.prog 116 ekey domK where
  law := law116
  key := by
    rintro ⟨a, b⟩ ⟨wa, wb⟩
    have hk : Try.prog.keyType 116 = true := by kernel_rfl
    have hf : (ekey (a, b)).formed Try.prog 116 = true := by
      have hc : Try.prog.cellsOf 116 = 2 := by kernel_rfl
      simp [ekey, Value.formed, Try.underlying116, hc]
    have hts : ∃ m, Try.prog.types.size = m + 1 := ⟨232, by kernel_rfl⟩
    obtain ⟨mm, hm⟩ := hts
    unfold keyOf
    simp only [Try.underlying116]
    rw [if_pos (by simp [hk, hf]), hm]
    unfold Program.keyLits
    simp only [Try.underlying116, ekey, Value.cells]
    have hc116 : Try.prog.cellsOf 116 = 2 := by kernel_rfl
    have hc3 : Try.prog.cellsOf 3 = 1 := by kernel_rfl
    simp only [] at wa wb
    have hr2 : List.range 2 = [0, 1] := by decide
    simp [Program.keyLits, Try.underlying3, hc116, hc3, wa, wb, hr2]
  inj := by
    rintro ⟨a, b⟩ ⟨c, d⟩ h
    simp only [ekey] at h
    injection h with h
    simp at h
    exact Prod.ext h.1 h.2
structure LinkAt (ok : Nat → Prop) (w : World) (p : Nat) (S : LSt) (M : List (Key × Ln)) (b : Nat) : Prop where
  pk : ok p
  blk : w.heap[p]? = some (.cells #[.int .i64 S.parties, .map (some b), .int .i64 (tot S.L : Nat)] 115 (0, 0))
  bk : ok b
  map : MapIs ekey lval domK w b M
  L : S.L = M.map (fun q => (q.1, q.2.2))
  rows : ∀ q ∈ M, Kd.Q kB 25 w 0 ok q.2.1 q.2.2
  apart : ∀ q ∈ M, ∀ q' ∈ M, q.1 ≠ q'.1 → ∀ g, q.2.1.ownBlock = some g → q'.2.1.ownBlock ≠ some g
/-- Links lie at p; all their blocks are ok. -/
def IsLink (ok : Nat → Prop) (w : World) (p : Nat) (S : LSt) : Prop := ∃ M b, LinkAt ok w p S M b

/-! ### what stays: old blocks that are not ok -/
structure Kp (ok : Nat → Prop) (w w' : World) : Prop where
  below : Below 0 w w'
  same : ∀ k, k < w.heap.size → ¬ ok k → w'.heap[k]? = w.heap[k]?
/-- What lies at base or above it. -/
def up (base : Nat) : Nat → Prop := fun k => base ≤ k
section
variable {ok : Nat → Prop} {w w1 w2 : World}
theorem Kp.refl (ok : Nat → Prop) (w : World) : Kp ok w w := ⟨Below.refl _ _, fun _ _ _ => rfl⟩
theorem Kp.trans (h : Kp ok w w1) (k : Kp ok w1 w2) : Kp ok w w2 := ⟨h.below.trans k.below, fun i hi hn => (k.same i (Nat.lt_of_lt_of_le hi h.below.size) hn).trans (h.same i hi hn)⟩
theorem Kp.of_below (h : Below w.heap.size w w1) (ok : Nat → Prop) : Kp ok w w1 := ⟨h.mono (Nat.zero_le _), fun i hi _ => h.block i hi⟩
theorem Kp.drew (h : Kp ok w w1) : Kp ok w w1.drew := ⟨h.below.drew, h.same⟩
theorem Kp.alloc (h : Kp ok w w1) (o : Obj) : Kp ok w (w1.alloc o) := h.trans (Kp.of_below (below_alloc (Below.refl _ _) o) _)
theorem Kp.grown (h : Kp ok w w1) {row : Option Nat} (hg : w1.grownBy w2 row) (hr : ∀ g, row = some g → ok g) : Kp ok w w2 :=
  h.trans ⟨(Below.refl _ _).grown hg (Nat.zero_le _) (fun _ _ => Nat.zero_le _), fun i hi hn => hg.block i hi (fun e => hn (hr i e.symm))⟩
theorem Kp.set (h : Kp ok w w1) {g : Nat} (hg : ok g) (j : Nat) (u : Value) : Kp ok w (w1.setCell ⟨g, j, none⟩ u) :=
  ⟨h.below.setCell (Nat.zero_le _) _, fun i hi hn => (Below.heap_setCell w1 ⟨g, j, none⟩ u i (fun e => hn (by rw [e]; exact hg))).trans (h.same i hi hn)⟩
theorem Kp.up {base : Nat} (h : Kp (Lnk.up base) w w1) (hb : base ≤ w.heap.size) : Below base w w1 :=
  ⟨h.below.os, h.below.tape, h.below.output, h.below.size, fun k hk => h.same k (by omega) (by unfold Lnk.up; omega)⟩
/-- Both frames of a method of the links. -/
structure Fz (ok : Nat → Prop) (w w' : World) : Prop where
  fr : Fr [115, 25] true 0 w w'
  kp : Kp ok w w'
theorem Fz.refl (ok : Nat → Prop) (w : World) : Fz ok w w := ⟨Fr.refl _ _ _ _, Kp.refl _ _⟩
theorem Fz.trans (h : Fz ok w w1) (k : Fz ok w1 w2) : Fz ok w w2 := ⟨h.fr.trans k.fr, h.kp.trans k.kp⟩
theorem Fz.of_below (h : Below w.heap.size w w1) (ok : Nat → Prop) : Fz ok w w1 := ⟨Fr.of_below (Nat.zero_le _) h _ _, Kp.of_below h _⟩
theorem Fz.up {base : Nat} (h : Fz (Lnk.up base) w w1) (hb : base ≤ w.heap.size) : Below base w w1 := h.kp.up hb
theorem Fz.size (h : Fz ok w w1) : w.heap.size ≤ w1.heap.size := h.fr.below.size
end
end Go.Proofs.Ytjghlomkimoeoaa.Lnk
