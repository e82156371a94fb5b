/- The disk's functions, walked: Spoil. -/
import Derived.Test.YtnplnelhodnonaaDkApp
namespace Go.Proofs.Ytnplnelhodnonaa.Dsk
open Go.RowKit Go.Proofs.YtnplnelhodnonaaW.PrintWords Go.Proofs.YtnplnelhodnonaaW.PrintLast Go.Proofs.YtnplnelhodnonaaW.PrintMore
open Amap Frm
set_option linter.unusedVariables false
set_option linter.unusedSimpArgs false
set_option linter.unusedSectionVars false
section
variable {ok : Nat → Prop} {w w1 : World} {p b : Nat} {S S' : DSt} {M : Gss}
/-- A segment's bytes turn where they lie. -/
theorem DAt.turn (h : DAt ok w p S M b) {n : Int} {x : Gs} (hx : mlook M n = some x) {q1 : List Int} (hR : Kd.R (Kd.int .u8) 5 w1 0 ok x.2.1 q1) (hg : w.grownBy w1 x.2.1.ownBlock) (hS : S'.L = mput S.L n (q1, x.2.2.2)) (hc : dcs S' b = dcs S b) : DAt ok w1 p S' (mput M n (x.1, x.2.1, (q1, x.2.2.2))) b ∧ Fz ok w w1 := by
  have hs := h.seg hx
  have hrow : ∀ {k : Nat} {cs : Array Value} {t : Nat}, w.heap[k]? = some (.cells cs t (0, 0)) → t ≠ 5 → some k ≠ x.2.1.ownBlock := fun hc ht => Kd.R_ne hs.row hc (fun e => ht e.symm)
  have hmb : some b ≠ x.2.1.ownBlock := fun e => by
    obtain ⟨cs, hc⟩ := Kd.R_typed hs.row b e.symm
    exact h.map_far hc rfl
  refine ⟨h.put (n := n) (x := (x.1, x.2.1, (q1, x.2.2.2))) hS ?_ ?_ ⟨hs.gk, blk_grown hs.blk hg (hrow hs.blk (by decide)), hR⟩ (fun q' hq' hne => ?_) (fun q' hq' hne => ?_), (Fz.refl ok w).row hs.row hg⟩
  · rw [hc]
    exact blk_grown h.blk hg (hrow h.blk (by decide))
  · exact (h.map_put (x := (x.1, x.2.1, (q1, x.2.2.2))) hx rfl).move (hg.block b h.map.lt hmb)
  · exact (h.segs q' hq').grown (h.apart q' hq' (n, x) (look_mem' hx) hne) hs.row hg
  · have hf := h.apart q' hq' (n, x) (look_mem' hx) hne
    exact ⟨hf.g, hf.row⟩
end
def xorB (y a : Int) : Int := bits BinOp.xor IntKind.u8 a y
section
variable (S : DSt) (M : Gss) (b : Nat) (n a y : Int) (ok : Nat → Prop) (p : Nat) (w : World) (h : DAt ok w p S M b) (hn : domI n) (hu : used S.L ≤ 50000000)
include h hn hu
set_option maxHeartbeats 2000000 in
set_option maxRecDepth 100000 in
theorem Spoil_calls : Calls Try.prog 26 #[.pointer (some ⟨p, 0, none⟩), .int .i64 n, .int .i64 a, .int .u8 y] w fun e w' => e = .returned (.bool (dspoil S n a (xorB y)).2) ∧ IsD ok w' p (dspoil S n a (xorB y)).1 ∧ Fz ok w w' := by
  obtain ⟨c0, c1, c2, c3, c4⟩ := h.cells
  cases hx : mlook M n with
  | none =>
    have e : dspoil S n a (xorB y) = (S, false) := by
      unfold dspoil
      rw [h.sg0 hx, if_neg (by simp)]
    rw [e]
    have hlk := h.lookN hn hx
    have h' := Aside0.mk h
    clear e h hx hn hu
    go_enter Try.func26, Try.ntmps26
    go_wp2
    go_ret
    exact ⟨rfl, ⟨_, _, h'.out⟩, Fz.refl _ _⟩
  | some x =>
    have hlk := h.lookS hn hx
    have hsg := h.sg hx
    obtain ⟨s0, s1⟩ := (h.seg hx).cells
    by_cases h0 : a < 0
    · have e : dspoil S n a (xorB y) = (S, false) := by
        unfold dspoil
        rw [if_neg (by omega)]
      rw [e]
      obtain ⟨g, v, q, sy⟩ := x
      simp only [] at hlk s0
      have d0 : decide (a < 0) = true := decide_eq_true h0
      have h' := Aside0.mk h
      clear e h hx hn hu hsg h0
      go_enter Try.func26, Try.ntmps26
      go_wp2
      go_ret
      exact ⟨rfl, ⟨_, _, h'.out⟩, Fz.refl _ _⟩
    · obtain ⟨A, c, hv, hc, hC⟩ := (h.seg hx).form
      by_cases h1 : a < x.2.2.1.length
      · have hp : 0 < x.2.2.1.length := by omega
        obtain ⟨gr, cap, hv2, _, _, cells, hcl⟩ := Kd.R_form (h.seg hx).row hp
        have hrow := (h.seg hx).row
        rw [hv2] at hrow s0
        have hc0 := Kd.R_cell (0 : Int) hrow a (by omega) (by omega)
        have e : dspoil S n a (xorB y) = (S.withL (mput S.L n (x.2.2.1.set a.toNat (xorB y (x.2.2.1.getD a.toNat 0)), x.2.2.2)), true) := by
          unfold dspoil
          rw [hsg, if_pos ⟨by omega, h1⟩]
        rw [e]
        have hput := Kd.R_put hrow a (xorB y (x.2.2.1.getD a.toNat 0))
        obtain ⟨z, hz⟩ : ∃ z, x.2.2.1.getD a.toNat 0 = z := ⟨_, rfl⟩
        have hrz : rdOf (0 : Int) x.2.2.1 a = z := hz
        rw [hrz] at hc0
        rw [hz] at hput ⊢
        obtain ⟨hr1, hr2⟩ := hc0
        have hfin := h.turn (S' := S.withL (mput S.L n (x.2.2.1.set a.toNat (xorB y z), x.2.2.2))) hx (q1 := x.2.2.1.set a.toNat (xorB y z)) (by rw [hv2]; exact hput.1) (by rw [hv2]; exact hput.2) rfl rfl
        have hfin' := Aside0.mk hfin
        obtain ⟨g, v, q, sy⟩ := x
        simp only [] at hlk s0 h1 hv2 hfin' hput hr1 hr2 ⊢
        subst hv2
        have d1 : ¬ ((q.length : Int) ≤ a) := by omega
        have d0 : 0 ≤ a := by omega
        have k0 : decide (a < 0) = false := decide_eq_false (by omega)
        clear e h hx hn hu hsg hfin hrow hput hcl hC hc hv hz hrz h0 hp
        go_enter Try.func26, Try.ntmps26
        go_wp2
        go_ret
        exact ⟨rfl, ⟨_, _, hfin'.out.1⟩, hfin'.out.2⟩
      · have e : dspoil S n a (xorB y) = (S, false) := by
          unfold dspoil
          rw [hsg, if_neg (by omega)]
        rw [e]
        rw [hv] at s0
        obtain ⟨g, v, q, sy⟩ := x
        simp only [] at hlk s0 h1
        have d1 : (q.length : Int) ≤ a := by omega
        have d0 : 0 ≤ a := by omega
        have k0 : decide (a < 0) = false := decide_eq_false (by omega)
        have h' := Aside0.mk h
        clear e h hx hn hu hsg h0 h1 hC hc hv
        go_enter Try.func26, Try.ntmps26
        go_wp2
        go_ret
        exact ⟨rfl, ⟨_, _, h'.out⟩, Fz.refl _ _⟩
end
end Go.Proofs.Ytnplnelhodnonaa.Dsk
