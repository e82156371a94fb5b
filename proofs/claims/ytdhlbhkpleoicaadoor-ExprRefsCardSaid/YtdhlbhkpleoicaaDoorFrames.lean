/- What may turn, and what stays: frames of no program. -/
import Derived.Test.YtdhlbhkpleoicaaDoorWMore
import Derived.WalkKit
namespace Go.Proofs.YtdhlbhkpleoicaaDoor.Frm
open Go.RowKit Go.Proofs.YtdhlbhkpleoicaaDoorW.PrintWords Go.Proofs.YtdhlbhkpleoicaaDoorW.PrintLast Go.Proofs.YtdhlbhkpleoicaaDoorW.PrintMore
set_option linter.unusedVariables false
set_option linter.unusedSimpArgs false

/-! ### what may turn -/
/-- An object that is left as it is: no cells of these types, and no map (where maps may turn). -/
def Still (T : List Nat) (mp : Bool) : Obj → Prop
  | .cells _ t _ => t ∉ T
  | .map _ _ => mp = false
  | _ => True
structure Fr (T : List Nat) (mp : Bool) (base : Nat) (w w' : World) : Prop where
  below : Below base w w'
  same : ∀ (i : Nat) (o : Obj), w.heap[i]? = some o → Still T mp o → w'.heap[i]? = some o
section
variable {T : List Nat} {mp : Bool} {base : Nat} {w w1 w2 : World}
theorem Fr.refl (T : List Nat) (mp : Bool) (base : Nat) (w : World) : Fr T mp base w w := ⟨Below.refl _ _, fun _ _ h _ => h⟩
theorem Fr.trans (h : Fr T mp base w w1) (k : Fr T mp base w1 w2) : Fr T mp base w w2 := ⟨h.below.trans k.below, fun i o ho hs => k.same i o (h.same i o ho hs) hs⟩
theorem Fr.of_below (hb : base ≤ w.heap.size) (h : Below w.heap.size w w1) (T : List Nat) (mp : Bool) : Fr T mp base w w1 := ⟨h.mono hb, fun i o ho _ => (h.block i (blk_lt ho)).trans ho⟩
theorem Fr.drew (h : Fr T mp base w w1) : Fr T mp base w w1.drew := ⟨h.below.drew, h.same⟩
theorem Fr.drewN (h : Fr T mp base w w1) (n : Nat) : Fr T mp base w (w1.drewN n) := ⟨pw_below_drewN h.below n, h.same⟩
theorem Fr.alloc (h : Fr T mp base w w1) (hb : base ≤ w.heap.size) (o : Obj) : Fr T mp base w (w1.alloc o) :=
  ⟨h.below.alloc (Nat.le_trans hb h.below.size) o, fun i o' ho hs => blk_alloc (h.same i o' ho hs) o⟩
theorem Fr.set (h : Fr T mp base w w1) {g t : Nat} {cs : Array Value} {z : Nat × Nat} (hg : w1.heap[g]? = some (.cells cs t z)) (ht : t ∈ T) (hb : base ≤ g) (j : Nat) (u : Value) : Fr T mp base w (w1.setCell ⟨g, j, none⟩ u) :=
  ⟨h.below.setCell hb _, fun i o ho hs => by
    have h1 := h.same i o ho hs
    by_cases e : i = g
    · subst e
      rw [hg] at h1
      cases h1
      exact absurd ht hs
    · exact (Below.heap_setCell w1 ⟨g, j, none⟩ u i e).trans h1⟩
theorem Fr.keep (h : Fr T mp base w w1) {g t : Nat} {cs : Array Value} {z : Nat × Nat} (hg : w1.heap[g]? = some (.cells cs t z)) (ht : t ∈ T) (hb : Below base w1 w2) (k : KeepBut w1 w2 g none) : Fr T mp base w w2 :=
  ⟨h.below.trans hb, fun i o ho hs => by
    have h1 := h.same i o ho hs
    by_cases e : i = g
    · subst e
      rw [hg] at h1
      cases h1
      exact absurd ht hs
    · exact (k.2 i (blk_lt h1) e (by simp)).trans h1⟩
theorem Fr.grown (h : Fr T mp base w w1) {row : Option Nat} (hg : w1.grownBy w2 row) (hbase : base ≤ w1.heap.size) (hr : ∀ g, row = some g → base ≤ g ∧ ∀ o, w1.heap[g]? = some o → ¬ Still T mp o) : Fr T mp base w w2 :=
  ⟨h.below.grown hg hbase (fun g e => (hr g e).1), fun i o ho hs => by
    have h1 := h.same i o ho hs
    by_cases e : row = some i
    · exact absurd hs ((hr i e).2 o h1)
    · exact (hg.block i (blk_lt h1) (fun e1 => e e1.symm)).trans h1⟩
end

theorem R_fr {α : Type} {d : Kd α} {e : Nat} {w w1 : World} {base base' : Nat} {ok : Nat → Prop} {v : Value} {xs : List α} {T : List Nat} {mp : Bool} (h : d.R e w base ok v xs) (f : Fr T mp base' w w1) (ht : ∀ q, q ∈ e :: d.E → q ∉ T) : d.R e w1 base ok v xs :=
  Kd.R_mono (Kd.R_move (Kd.R_bound h) (fun k hk => by
    obtain ⟨_, _, _, q, hq, cells, hc⟩ := hk
    rw [hc]
    exact f.same k _ hc (ht q hq))) (fun _ hk => hk.1)

theorem Fr.set_new {T : List Nat} {mp : Bool} {base : Nat} {w w1 : World} (h : Fr T mp base w w1) {g : Nat} (hg : w.heap.size ≤ g) (hb : base ≤ g) (j : Nat) (u : Value) : Fr T mp base w (w1.setCell ⟨g, j, none⟩ u) :=
  ⟨h.below.setCell hb _, fun i o ho hs => by
    have := blk_lt ho
    exact (Below.heap_setCell w1 ⟨g, j, none⟩ u i (by simp only; omega)).trans (h.same i o ho hs)⟩
theorem Fr.mono {T T' : List Nat} {mp mp' : Bool} {base : Nat} {w w1 : World} (h : Fr T mp base w w1) (hT : ∀ t, t ∈ T → t ∈ T') (hm : mp = true → mp' = true) : Fr T' mp' base w w1 :=
  ⟨h.below, fun i o ho hs => h.same i o ho (by
    cases o <;> simp only [Still] at hs ⊢
    · exact fun e => hs (hT _ e)
    · cases mp <;> simp_all)⟩
theorem bcell {W w1 : World} (hb : Below W.heap.size W w1) : (∀ b o, b < W.heap.size → w1.cell? ⟨b, o, none⟩ = W.cell? ⟨b, o, none⟩) ∧ (∀ b o, b < W.heap.size → w1.frozen? ⟨b, o, none⟩ = W.frozen? ⟨b, o, none⟩) :=
  ⟨fun b o h => hb.cell (p := ⟨b, o, none⟩) h, fun b o h => hb.frozen (p := ⟨b, o, none⟩) h⟩
theorem wp_world {P : Program} {c : Code} {K : Exit → Act → World → Prop} {a : Act} {w : World} (h : ∀ W, W = w → Code.wp P c K a W) : Code.wp P c K a w := h w rfl

/-! ### what stays: old blocks that are not ok -/
structure Kp (ok : Nat → Prop) (w w' : World) : Prop where
  below : Below 0 w w'
  same : ∀ k, k < w.heap.size → ¬ ok k → w'.heap[k]? = w.heap[k]?
/-- What lies at base or above it. -/
def up (base : Nat) : Nat → Prop := fun k => base ≤ k
section
variable {ok : Nat → Prop} {w w1 w2 : World}
theorem Kp.refl (ok : Nat → Prop) (w : World) : Kp ok w w := ⟨Below.refl _ _, fun _ _ _ => rfl⟩
theorem Kp.trans (h : Kp ok w w1) (k : Kp ok w1 w2) : Kp ok w w2 := ⟨h.below.trans k.below, fun i hi hn => (k.same i (Nat.lt_of_lt_of_le hi h.below.size) hn).trans (h.same i hi hn)⟩
theorem Kp.of_below (h : Below w.heap.size w w1) (ok : Nat → Prop) : Kp ok w w1 := ⟨h.mono (Nat.zero_le _), fun i hi _ => h.block i hi⟩
theorem Kp.drew (h : Kp ok w w1) : Kp ok w w1.drew := ⟨h.below.drew, h.same⟩
theorem Kp.alloc (h : Kp ok w w1) (o : Obj) : Kp ok w (w1.alloc o) := h.trans (Kp.of_below (below_alloc (Below.refl _ _) o) _)
theorem Kp.grown (h : Kp ok w w1) {row : Option Nat} (hg : w1.grownBy w2 row) (hr : ∀ g, row = some g → ok g) : Kp ok w w2 :=
  h.trans ⟨(Below.refl _ _).grown hg (Nat.zero_le _) (fun _ _ => Nat.zero_le _), fun i hi hn => hg.block i hi (fun e => hn (hr i e.symm))⟩
theorem Kp.set (h : Kp ok w w1) {g : Nat} (hg : ok g) (j : Nat) (u : Value) : Kp ok w (w1.setCell ⟨g, j, none⟩ u) :=
  ⟨h.below.setCell (Nat.zero_le _) _, fun i hi hn => (Below.heap_setCell w1 ⟨g, j, none⟩ u i (fun e => hn (by rw [e]; exact hg))).trans (h.same i hi hn)⟩
theorem Kp.up {base : Nat} (h : Kp (Frm.up base) w w1) (hb : base ≤ w.heap.size) : Below base w w1 :=
  ⟨h.below.os, h.below.tape, h.below.output, h.below.size, fun k hk => h.same k (by omega) (by unfold Frm.up; omega)⟩
end
theorem Kp.drewN {ok : Nat → Prop} {w w1 : World} (h : Kp ok w w1) (n : Nat) : Kp ok w (w1.drewN n) := ⟨pw_below_drewN h.below n, h.same⟩
/-- A frame: blocks of types not in T stay, and old blocks that are not ok. -/
structure Fk (T : List Nat) (ok : Nat → Prop) (w w' : World) : Prop where
  fr : Fr T false 0 w w'
  kp : Kp ok w w'
section
variable {T : List Nat} {ok : Nat → Prop} {w w1 w2 : World}
theorem Fk.refl (T : List Nat) (ok : Nat → Prop) (w : World) : Fk T ok w w := ⟨Fr.refl _ _ _ _, Kp.refl _ _⟩
theorem Fk.trans (h : Fk T ok w w1) (k : Fk T ok w1 w2) : Fk T ok w w2 := ⟨h.fr.trans k.fr, h.kp.trans k.kp⟩
theorem Fk.of_below (h : Below w.heap.size w w1) : Fk T ok w w1 := ⟨Fr.of_below (Nat.zero_le _) h _ _, Kp.of_below h _⟩
theorem Fk.drewN (h : Fk T ok w w1) (n : Nat) : Fk T ok w (w1.drewN n) := ⟨h.fr.drewN n, h.kp.drewN n⟩
theorem Fk.size (h : Fk T ok w w1) : w.heap.size ≤ w1.heap.size := h.fr.below.size
/-- A row that is ok grows. -/
theorem Fk.row (h : Fk T ok w w1) {α : Type} {d : Kd α} {e base : Nat} {oke : Nat → Prop} {v : Value} {xs : List α} (hr : d.R e w1 base oke v xs) (he : e ∈ T) (hk : ∀ k, oke k → ok k) (hg : w1.grownBy w2 v.ownBlock) : Fk T ok w w2 := by
  refine ⟨h.fr.grown hg (Nat.zero_le _) (fun g e1 => ⟨Nat.zero_le _, fun o ho => ?_⟩), h.kp.grown hg (fun g e1 => hk g (hr.1 g e1))⟩
  obtain ⟨cells, hc⟩ := Kd.R_typed hr g e1
  rw [hc] at ho
  cases ho
  simp [Still, he]
theorem Fk.set (h : Fk T ok w w1) {g t : Nat} {cs : Array Value} {z : Nat × Nat} (hg : w1.heap[g]? = some (.cells cs t z)) (ht : t ∈ T) (hk : ok g) (j : Nat) (u : Value) : Fk T ok w (w1.setCell ⟨g, j, none⟩ u) :=
  ⟨h.fr.set hg ht (Nat.zero_le _) j u, h.kp.set hk j u⟩
end
theorem blk_new_at {w : World} {o : Obj} {g : Nat} (h : w.heap.size = g) : (w.alloc o).heap[g]? = some o := by subst h; exact blk_new _ _
theorem keepx {W cur : World} {ad : Addr} {u : Value} (hx : W.cell? ad = some u) (hb : Below W.heap.size W cur) : cur.cell? ad = some u := (hb.cell (World.block_lt_of_cell? W _ hx)).trans hx
theorem below0 {W w1 : World} (h : Below W.heap.size W w1) : Below 0 W w1 := h.mono (Nat.zero_le _)
theorem R_mtk {α : Type} (d : Kd α) {w : World} {g e base : Nat} {ok : Nat → Prop} (h : w.heap[g]? = some (.cells #[] e (0, 0))) (hb : base ≤ g) (hok : ok g) : d.R e w base ok (.slice (some ⟨g, 0, none⟩) 0 0) [] :=
  ⟨fun k hk => by simp [Value.ownBlock] at hk; subst hk; exact hok, [], ⟨by simp, .inr ⟨g, 0, #[], rfl, hb, h, Nat.le_refl _, by decide, by simp, by simp⟩⟩, Reps.none _ _⟩
end Go.Proofs.YtdhlbhkpleoicaaDoor.Frm
