/- The disk's functions, walked: Append (printed by genApp.py). -/
import Derived.Test.YtnplnelhodnonaaDkDrop
import Derived.Deep.RegionHeld3
namespace Go.Proofs.Ytnplnelhodnonaa.Dsk
open Go.RowKit Go.Proofs.YtnplnelhodnonaaW.PrintWords Go.Proofs.YtnplnelhodnonaaW.PrintLast Go.Proofs.YtnplnelhodnonaaW.PrintMore
open Amap Frm
set_option linter.unusedVariables false
set_option linter.unusedSimpArgs false
set_option linter.unusedSectionVars false
section
variable {ok : Nat → Prop} {w w1 : World} {p b : Nat} {S S' : DSt} {M : Gss}
theorem SegAt.setFar {x : Gs} (h : SegAt ok w x) {g : Nat} {cs : Array Value} (hg : w.heap[g]? = some (.cells cs 91 (0, 0))) (hf : x.1 ≠ g) (j : Nat) (u : Value) : SegAt ok (w.setCell ⟨g, j, none⟩ u) x :=
  ⟨h.gk, (Below.heap_setCell w ⟨g, j, none⟩ u x.1 hf).trans h.blk, Kd.R_set h.row hg (by simp [Kd.int, Kd.scalar]) j u⟩
/-- A segment's bytes grow, and its slice is stored. -/
theorem DAt.grow (h : DAt ok w p S M b) {n : Int} {x : Gs} (hx : mlook M n = some x) {v1 : Value} {q1 : List Int} (hR : Kd.R (Kd.int .u8) 5 w1 0 ok v1 q1) (hg : w.grownBy w1 x.2.1.ownBlock) (hat : v1.ownBlock = x.2.1.ownBlock ∨ ∃ k, v1.ownBlock = some k ∧ w.heap.size ≤ k) (hS : S'.L = mput S.L n (q1, x.2.2.2)) (hc : dcs S' b = dcs S b) : DAt ok (w1.setCell ⟨x.1, 0, none⟩ v1) p S' (mput M n (x.1, v1, (q1, x.2.2.2))) b ∧ Fz ok w (w1.setCell ⟨x.1, 0, none⟩ v1) := by
  have hs := h.seg hx
  have hrow : ∀ {k : Nat} {cs : Array Value} {t : Nat}, w.heap[k]? = some (.cells cs t (0, 0)) → t ≠ 5 → some k ≠ x.2.1.ownBlock := fun hc ht => Kd.R_ne hs.row hc (fun e => ht e.symm)
  have hg1 : w1.heap[x.1]? = some (.cells #[x.2.1, .int .i64 (x.2.2.2 : Nat)] 91 (0, 0)) := blk_grown hs.blk hg (hrow hs.blk (by decide))
  have hmb : some b ≠ x.2.1.ownBlock := fun e => by
    obtain ⟨cs, hc⟩ := Kd.R_typed hs.row b e.symm
    exact h.map_far hc rfl
  refine ⟨h.put (n := n) (x := (x.1, v1, (q1, x.2.2.2))) hS ?_ ?_ ⟨hs.gk, blk_put hg1 0 _ rfl, Kd.R_set hR hg1 (by simp [Kd.int, Kd.scalar]) 0 _⟩ (fun q' hq' hne => ?_) (fun q' hq' hne => ?_), ((Fz.refl ok w).row hs.row hg).set hg1 (by simp) hs.gk 0 _⟩
  · rw [hc]
    exact (Below.heap_setCell w1 ⟨x.1, 0, none⟩ v1 p (fun e => by
      have e : p = x.1 := e
      exact seg_far hs h.blk (by decide) e.symm)).trans (blk_grown h.blk hg (hrow h.blk (by decide)))
  · exact ((h.map_put (x := (x.1, v1, (q1, x.2.2.2))) hx rfl).move (hg.block b h.map.lt hmb)).move (Below.heap_setCell w1 ⟨x.1, 0, none⟩ v1 b (by
      obtain ⟨es, c, hb, _⟩ := h.map
      intro e
      have e : b = x.1 := e
      rw [e, hs.blk] at hb
      cases hb))
  · have hf := h.apart q' hq' (n, x) (look_mem' hx) hne
    exact ((h.segs q' hq').grown hf hs.row hg).setFar hg1 hf.g 0 _
  · have hf := h.apart q' hq' (n, x) (look_mem' hx) hne
    refine ⟨hf.g, fun k hk e => ?_⟩
    have e : v1.ownBlock = some k := e
    rcases hat with h1 | ⟨k1, h1, h2⟩
    · exact hf.row k hk (h1.symm.trans e)
    · have h3 := Kd.R_lt (h.segs q' hq').row k hk
      rw [h1] at e
      cases e
      omega
/-- A segment is laid anew: empty. -/
theorem DAt.fresh (h : DAt ok w p S M b) (hok : ∀ k, w.heap.size ≤ k → ok k) {n : Int} (hd : domI n) (hx : mlook M n = none) :
    ∃ w', (Instr.mapUpdate 77 (.map (some b)) (.int .i64 n) (.pointer (some ⟨w.heap.size, 0, none⟩))).run Try.prog (w.alloc (.cells #[.slice none 0 0, .int .i64 0] 91)) = .ok () w' ∧ DAt ok w' p (S.withL (mput S.L n ([], 0))) (mput M n (w.heap.size, .slice none 0 0, ([], 0))) b ∧ Fz ok w w' ∧ mlook (mput M n (w.heap.size, .slice none 0 0, ([], 0))) n = some (w.heap.size, .slice none 0 0, ([], 0)) ∧ w.heap.size ≤ w'.heap.size := by
  have ha := h.below (below_alloc (Below.refl _ _) (.cells #[.slice none 0 0, .int .i64 0] 91))
  obtain ⟨w', hrun, hm, hg⟩ := ha.map.update encI Try.underlying77 hd (w.heap.size, .slice none 0 0, ([], 0))
  have hn : w.heap.size ≤ (w.alloc (.cells #[.slice none 0 0, .int .i64 0] 91)).heap.size := by simp
  refine ⟨w', hrun, ha.put (n := n) rfl (ha.mapblk hg) hm ?_ (fun q hq _ => (ha.segs q hq).map ha.map hg) (fun q hq _ => ?_), ((Fz.refl ok w).alloc _).map ha.map h.bk hg, ?_, Nat.le_trans hn hg.size⟩
  · have hs : SegAt ok (w.alloc (.cells #[.slice none 0 0, .int .i64 0] 91)) (w.heap.size, .slice none 0 0, ([], 0)) := ⟨hok _ (Nat.le_refl _), blk_new _ _, Kd.R_nil _ _ _ _ _⟩
    exact hs.map ha.map hg
  · refine ⟨?_, fun k hk e => by cases e⟩
    have := blk_lt (h.segs q hq).blk
    show q.2.1 ≠ w.heap.size
    omega
  · have h2 := mput_new (v := ((w.heap.size, .slice none 0 0, ([], 0)) : Gs)) (mlook_none.1 hx)
    refine mem_look' (by rw [show ((mput M n (w.heap.size, .slice none 0 0, ([], 0))).map (·.1)).Nodup ↔ _ from Iff.rfl]; exact mput_keys_new _ h.nd (mlook_none.1 hx)) ?_
    rw [h2]
    simp
theorem put_put (L : Sgs) (n : Int) (v u : Sg) : mput (mput L n v) n u = mput L n u := by
  induction L with
  | nil => simp [mput]
  | cons p m ih =>
    by_cases e : p.1 = n
    · simp [mput, e]
    · simp [mput, e, ih]
end
set_option maxHeartbeats 4000000 in
set_option maxRecDepth 100000 in
theorem Append_down (S : DSt) (M : Gss) (b : Nat) (n : Int) (L : List Int) (A : Option Addr) (cp : Nat) (ok : Nat → Prop) (p : Nat) (w : World) (hok : ∀ k, w.heap.size ≤ k → ok k) (h : DAt ok w p S M b) (hn : domI n) (hu : used S.L ≤ 50000000) (hL : L.length ≤ 1000000) (hC : Kd.C (Kd.int .u8) w A L.length L) (hd : S.down = true) :
    Calls Try.prog 23 #[.pointer (some ⟨p, 0, none⟩), .int .i64 n, .slice A L.length cp] w fun e w' => e = .returned (.int .i64 (dappend S n L).2) ∧ IsD ok w' p (dappend S n L).1 ∧ Fz ok w w' := by
  have e : dappend S n L = (S, 8) := by unfold dappend; rw [if_pos hd]
  rw [e]
  obtain ⟨c0, c1, c2, c3, c4⟩ := h.cells
  rw [hd] at c4; clear hd
  have h' := Aside0.mk h
  clear e h hok hn hu hL hC
  go_enter Try.func23, Try.ntmps23
  go_wp2
  go_ret
  exact ⟨rfl, ⟨_, _, h'.out⟩, Fz.refl _ _⟩
set_option maxHeartbeats 4000000 in
set_option maxRecDepth 100000 in
theorem Append_neg (S : DSt) (M : Gss) (b : Nat) (n : Int) (L : List Int) (A : Option Addr) (cp : Nat) (ok : Nat → Prop) (p : Nat) (w : World) (hok : ∀ k, w.heap.size ≤ k → ok k) (h : DAt ok w p S M b) (hn : domI n) (hu : used S.L ≤ 50000000) (hL : L.length ≤ 1000000) (hC : Kd.C (Kd.int .u8) w A L.length L) (hd : S.down = false) (hn0 : n < 0) :
    Calls Try.prog 23 #[.pointer (some ⟨p, 0, none⟩), .int .i64 n, .slice A L.length cp] w fun e w' => e = .returned (.int .i64 (dappend S n L).2) ∧ IsD ok w' p (dappend S n L).1 ∧ Fz ok w w' := by
  have e : dappend S n L = (S, 1) := by unfold dappend; rw [if_neg (by simp [hd]), if_pos hn0]
  rw [e]
  obtain ⟨c0, c1, c2, c3, c4⟩ := h.cells
  rw [hd] at c4; clear hd
  have h' := Aside0.mk h
  clear e h hok hn hu hL hC
  go_enter Try.func23, Try.ntmps23
  go_wp2
  go_ret
  exact ⟨rfl, ⟨_, _, h'.out⟩, Fz.refl _ _⟩
set_option maxHeartbeats 4000000 in
set_option maxRecDepth 100000 in
theorem Append_full (S : DSt) (M : Gss) (b : Nat) (n : Int) (L : List Int) (A : Option Addr) (cp : Nat) (ok : Nat → Prop) (p : Nat) (w : World) (hok : ∀ k, w.heap.size ≤ k → ok k) (h : DAt ok w p S M b) (hn : domI n) (hu : used S.L ≤ 50000000) (hL : L.length ≤ 1000000) (hC : Kd.C (Kd.int .u8) w A L.length L) (hd : S.down = false) (hn0 : 0 ≤ n) (hf : (used S.L : Int) + L.length > S.room) :
    Calls Try.prog 23 #[.pointer (some ⟨p, 0, none⟩), .int .i64 n, .slice A L.length cp] w fun e w' => e = .returned (.int .i64 (dappend S n L).2) ∧ IsD ok w' p (dappend S n L).1 ∧ Fz ok w w' := by
  have e : dappend S n L = (S, 7) := by unfold dappend; rw [if_neg (by simp [hd]), if_neg (by omega), if_pos hf]
  rw [e]
  clear e
  have hU := Aside0.mk (Used_calls S M b ok p w.drew (h.below (below_drew (Below.refl _ _))) (by omega))
  obtain ⟨c0, c1, c2, c3, c4⟩ := h.cells
  rw [hd] at c4
  have h' := Aside0.mk h
  have hn' := Aside0.mk hn
  have hok' := Aside0.mk hok
  have hC' := Aside0.mk hC
  have hL' := Aside0.mk hL
  obtain ⟨U, hUU⟩ : ∃ U, used S.L = U := ⟨_, rfl⟩
  obtain ⟨r, hrr⟩ : ∃ r, S.room = r := ⟨_, rfl⟩
  rw [hUU] at hU hu hf
  rw [hrr] at c1 hf
  have hcw : IntKind.i64.wrap ((U : Int) + (L.length : Int)) = (U : Int) + (L.length : Int) := by simp [IntKind.wrap, IntKind.signed, IntKind.bits]; omega
  have hn0' : ¬ (n < 0) := by omega
  have hu' := Aside0.mk hu
  have hUU' := Aside0.mk hUU
  have hrr' := Aside0.mk hrr
  clear h hn hok hC hL hu hd hn0 hUU hrr c0 c2 c3

  go_enter Try.func23, Try.ntmps23
  go_upto_region 7 with fail
  go_region_held3 (fun w' => w'.cell? ⟨p, 1, none⟩ = some (.int .i64 r))
    (first | (exact c1) | (exact keepx c1 hX1.out))
    (first
      | (go_at_call 27; (with_reducible refine hU.out.mono ?_); rintro e w1 ⟨rfl, hb1⟩; have hX1 : Aside0 (Below w.heap.size w w1) := ⟨(below_drew (Below.refl _ _)).trans hb1⟩; clear hb1)
      | fail)
  go_wp2
  go_ret
  exact ⟨rfl, ⟨_, _, h'.out.below hX1.out⟩, Fz.of_below hX1.out _⟩
set_option maxHeartbeats 4000000 in
set_option maxRecDepth 100000 in
theorem Append_burnt (S : DSt) (M : Gss) (b : Nat) (n : Int) (L : List Int) (A : Option Addr) (cp : Nat) (ok : Nat → Prop) (p : Nat) (w : World) (hok : ∀ k, w.heap.size ≤ k → ok k) (h : DAt ok w p S M b) (hn : domI n) (hu : used S.L ≤ 50000000) (hL : L.length ≤ 1000000) (hC : Kd.C (Kd.int .u8) w A L.length L) (hd : S.down = false) (hn0 : 0 ≤ n) (hf : ¬ ((used S.L : Int) + L.length > S.room)) (hy : (burn S).2 = false) :
    Calls Try.prog 23 #[.pointer (some ⟨p, 0, none⟩), .int .i64 n, .slice A L.length cp] w fun e w' => e = .returned (.int .i64 (dappend S n L).2) ∧ IsD ok w' p (dappend S n L).1 ∧ Fz ok w w' := by
  have e1 : (burn S).1.L = S.L := (burn_L S).1
  obtain ⟨⟨B, y⟩, hB⟩ : ∃ r, burn S = r := ⟨_, rfl⟩
  rw [hB] at hy e1
  simp only [] at hy e1
  subst hy
  have e : dappend S n L = (B, 8) := by unfold dappend; rw [if_neg (by simp [hd]), if_neg (by omega), if_neg hf, hB]; rfl
  rw [e]
  have e1' := Aside0.mk e1
  have hB' := Aside0.mk hB
  clear e e1 hB
  have hU := Aside0.mk (Used_calls S M b ok p w.drew (h.below (below_drew (Below.refl _ _))) (by omega))
  obtain ⟨c0, c1, c2, c3, c4⟩ := h.cells
  rw [hd] at c4
  have h' := Aside0.mk h
  have hn' := Aside0.mk hn
  have hok' := Aside0.mk hok
  have hC' := Aside0.mk hC
  have hL' := Aside0.mk hL
  obtain ⟨U, hUU⟩ : ∃ U, used S.L = U := ⟨_, rfl⟩
  obtain ⟨r, hrr⟩ : ∃ r, S.room = r := ⟨_, rfl⟩
  rw [hUU] at hU hu hf
  rw [hrr] at c1 hf
  have hcw : IntKind.i64.wrap ((U : Int) + (L.length : Int)) = (U : Int) + (L.length : Int) := by simp [IntKind.wrap, IntKind.signed, IntKind.bits]; omega
  have hn0' : ¬ (n < 0) := by omega
  have hu' := Aside0.mk hu
  have hUU' := Aside0.mk hUU
  have hrr' := Aside0.mk hrr
  clear h hn hok hC hL hu hd hn0 hUU hrr c0 c2 c3

  go_enter Try.func23, Try.ntmps23
  go_upto_region 7 with fail
  go_region_held3 (fun w' => w'.cell? ⟨p, 1, none⟩ = some (.int .i64 r))
    (first | (exact c1) | (exact keepx c1 hX1.out))
    (first
      | (go_at_call 27; (with_reducible refine hU.out.mono ?_); rintro e w1 ⟨rfl, hb1⟩; have hX1 : Aside0 (Below w.heap.size w w1) := ⟨(below_drew (Below.refl _ _)).trans hb1⟩; clear hb1)
      | fail)
  have h1 := h'.out.below hX1.out
  have hb := Aside0.mk (burn_calls S M b ok p w1 h1)
  rw [hB'.out] at hb
  obtain ⟨d0, d1, d2, d3, d4⟩ := h1.cells
  have h1' := Aside0.mk h1
  clear h1 d1 d2 d3 d4 c1 c4
  go_wp2_with (first
    | (go_at_call 51; (with_reducible refine hb.out.mono ?_); rintro e w2 ⟨rfl, h2, k2⟩)
    | fail)
  go_ret
  exact ⟨rfl, ⟨_, _, h2⟩, (Fz.of_below hX1.out _).trans k2⟩
set_option maxHeartbeats 4000000 in
set_option maxRecDepth 100000 in
theorem Append_old (S : DSt) (M : Gss) (b : Nat) (n : Int) (L : List Int) (A : Option Addr) (cp : Nat) (ok : Nat → Prop) (p : Nat) (w : World) (hok : ∀ k, w.heap.size ≤ k → ok k) (h : DAt ok w p S M b) (hn : domI n) (hu : used S.L ≤ 50000000) (hL : L.length ≤ 1000000) (hC : Kd.C (Kd.int .u8) w A L.length L) (hd : S.down = false) (hn0 : 0 ≤ n) (hf : ¬ ((used S.L : Int) + L.length > S.room)) (hy : (burn S).2 = true) (hCC : Aside0 (∀ w1, Fz ok w w1 → Kd.C (Kd.int .u8) w1 A L.length L)) (x : Gs) (hx : mlook M n = some x) :
    Calls Try.prog 23 #[.pointer (some ⟨p, 0, none⟩), .int .i64 n, .slice A L.length cp] w fun e w' => e = .returned (.int .i64 (dappend S n L).2) ∧ IsD ok w' p (dappend S n L).1 ∧ Fz ok w w' := by
  have e1 : (burn S).1.L = S.L := (burn_L S).1
  obtain ⟨⟨B, y⟩, hB⟩ : ∃ r, burn S = r := ⟨_, rfl⟩
  rw [hB] at hy e1
  simp only [] at hy e1
  subst hy
  have e : dappend S n L = (B.withL (mput S.L n ((sg S.L n).1 ++ L, (sg S.L n).2)), 0) := by unfold dappend; rw [if_neg (by simp [hd]), if_neg (by omega), if_neg hf, hB]; rfl
  rw [e]
  have e1' := Aside0.mk e1
  have hB' := Aside0.mk hB
  clear e e1 hB
  have hU := Aside0.mk (Used_calls S M b ok p w.drew (h.below (below_drew (Below.refl _ _))) (by omega))
  obtain ⟨c0, c1, c2, c3, c4⟩ := h.cells
  rw [hd] at c4
  have h' := Aside0.mk h
  have hn' := Aside0.mk hn
  have hok' := Aside0.mk hok
  have hC' := Aside0.mk hC
  have hL' := Aside0.mk hL
  obtain ⟨U, hUU⟩ : ∃ U, used S.L = U := ⟨_, rfl⟩
  obtain ⟨r, hrr⟩ : ∃ r, S.room = r := ⟨_, rfl⟩
  rw [hUU] at hU hu hf
  rw [hrr] at c1 hf
  have hcw : IntKind.i64.wrap ((U : Int) + (L.length : Int)) = (U : Int) + (L.length : Int) := by simp [IntKind.wrap, IntKind.signed, IntKind.bits]; omega
  have hn0' : ¬ (n < 0) := by omega
  have hu' := Aside0.mk hu
  have hUU' := Aside0.mk hUU
  have hrr' := Aside0.mk hrr
  clear h hn hok hC hL hu hd hn0 hUU hrr c0 c2 c3

  go_enter Try.func23, Try.ntmps23
  go_upto_region 7 with fail
  go_region_held3 (fun w' => w'.cell? ⟨p, 1, none⟩ = some (.int .i64 r))
    (first | (exact c1) | (exact keepx c1 hX1.out))
    (first
      | (go_at_call 27; (with_reducible refine hU.out.mono ?_); rintro e w1 ⟨rfl, hb1⟩; have hX1 : Aside0 (Below w.heap.size w w1) := ⟨(below_drew (Below.refl _ _)).trans hb1⟩; clear hb1)
      | fail)
  have h1 := h'.out.below hX1.out
  have hb := Aside0.mk (burn_calls S M b ok p w1 h1)
  rw [hB'.out] at hb
  obtain ⟨d0, d1, d2, d3, d4⟩ := h1.cells
  have h1' := Aside0.mk h1
  clear h1 d1 d2 d3 d4 c1 c4
  have hnil : ∀ W : World, (binOp BinOp.eql 77 (.map (some b)) (.map none)).run Try.prog W = .ok (.bool false) W := fun W => run_eql_map_nil (P := Try.prog) W 77 3 86 (some b) Try.underlying77
  have hsg := Aside0.mk (h'.out.sg hx)
  have hxx := Aside0.mk hx
  have hlen5 : Aside0 (x.2.2.1.length ≤ 50000000) := ⟨by have h9 := used_sg S.L n; rw [hsg.out] at h9; have := hu'.out; have := hUU'.out; omega⟩
  obtain ⟨A5, c5, hv5, _, _⟩ := (h'.out.seg hx).form
  obtain ⟨g, v, q, sy⟩ := x
  simp only [] at hv5 hlen5
  subst hv5
  clear hx
  go_upto_region 11 with (first
    | (go_at_call 51; (with_reducible refine hb.out.mono ?_); rintro e w2 ⟨rfl, h2, k2⟩; have h2' := Aside0.mk h2; have k2' := Aside0.mk ((Fz.of_below hX1.out ok).trans k2); clear h2 k2)
    | fail)
  obtain ⟨d0, d1, d2, d3, d4⟩ := h2'.out.cells
  have hlk5 := h2'.out.lookS hn'.out hxx.out
  simp only [] at hlk5
  clear d1 d2 d3 d4
  go_upto_region 15 with fail
  go_upto_region 16 with fail
  have hs5 := h2'.out.seg hxx.out
  have hv5 : Value.slice A5 q.length c5 = .slice A5 q.length c5 := rfl
  have hrow5 := Aside0.mk hs5.row
  simp only [] at hrow5 hs5
  obtain ⟨z0, z1⟩ := hs5.cells
  simp only [] at z0
  have hs5' := Aside0.mk hs5
  have hC5 := Aside0.mk (show Kd.C (Kd.int .u8) w2 A L.length L from by have := k2'.out; exact hCC.out w2 this)
  have f5 := blk_frozen hs5.blk 0
  simp only [] at f5
  clear hs5 z1
  go_wp2_with (first
    | ((with_reducible refine gate_builtin (b := .append) (xs := #[.tmp 67, .tmp 68]) rfl ?_); at_builtin
       refine Kd.R_append_row (Value.int .u8) 0 (w0 := w2) 0 rfl (.tmp 67) (.tmp 68) 30 5 (.int .u8 0) 1 rfl Try.underlying30 info5' rfl (by decide) (.slice A5 q.length c5) q L A L.length cp ok rfl rfl (fun k hk => hok'.out k (Nat.le_trans k2'.out.size hk)) hrow5.out hC5.out (Below.refl _ _) (Nat.zero_le _) (by have := hL'.out; have := hlen5.out; (try simp only [List.length_nil]); omega) ?_
       intro v6 w6 hR6 hB6 hg6 hat6
       obtain ⟨A6, c6, e6, hc6, hC6⟩ := Kd.R_reads hR6
       subst e6
       have hR6' := Aside0.mk hR6
       have hg6' := Aside0.mk hg6
       have hat6' := Aside0.mk hat6
       have hne6 : some g ≠ Value.ownBlock (.slice A5 q.length c5) := Kd.R_ne hrow5.out hs5'.out.blk (by decide)
       have z6 : w6.cell? ⟨g, 0, none⟩ = some (.slice A5 q.length c5) := (blk_cell (blk_grown hs5'.out.blk hg6 hne6) 0).trans rfl
       have u6 := blk_frozen (blk_grown hs5'.out.blk hg6 hne6) 0
       clear hg6 hat6 hR6 hB6 hc6 hC6 hne6)
    | fail)
  go_ret
  have hfin := h2'.out.grow (S' := B.withL (mput S.L n ((sg S.L n).1 ++ L, (sg S.L n).2))) hxx.out hR6'.out hg6'.out hat6'.out (by rw [hsg.out, e1'.out]; rfl) rfl
  simp only [List.length_append] at hfin
  exact ⟨rfl, ⟨_, _, hfin.1⟩, k2'.out.trans hfin.2⟩
set_option maxHeartbeats 4000000 in
set_option maxRecDepth 100000 in
theorem Append_new' (S : DSt) (M : Gss) (b : Nat) (n : Int) (L : List Int) (A : Option Addr) (cp : Nat) (ok : Nat → Prop) (p : Nat) (w : World) (hok : ∀ k, w.heap.size ≤ k → ok k) (h : DAt ok w p S M b) (hn : domI n) (hu : used S.L ≤ 50000000) (hL : L.length ≤ 1000000) (hC : Kd.C (Kd.int .u8) w A L.length L) (hd : S.down = false) (hn0 : 0 ≤ n) (hf : ¬ ((used S.L : Int) + L.length > S.room)) (hy : (burn S).2 = true) (hCC : Aside0 (∀ w1, Fz ok w w1 → Kd.C (Kd.int .u8) w1 A L.length L)) (hx : mlook M n = none) :
    Calls Try.prog 23 #[.pointer (some ⟨p, 0, none⟩), .int .i64 n, .slice A L.length cp] w fun e w' => e = .returned (.int .i64 (dappend S n L).2) ∧ IsD ok w' p (dappend S n L).1 ∧ Fz ok w w' := by
  have e1 : (burn S).1.L = S.L := (burn_L S).1
  obtain ⟨⟨B, y⟩, hB⟩ : ∃ r, burn S = r := ⟨_, rfl⟩
  rw [hB] at hy e1
  simp only [] at hy e1
  subst hy
  have e : dappend S n L = (B.withL (mput S.L n ((sg S.L n).1 ++ L, (sg S.L n).2)), 0) := by unfold dappend; rw [if_neg (by simp [hd]), if_neg (by omega), if_neg hf, hB]; rfl
  rw [e]
  have e1' := Aside0.mk e1
  have hB' := Aside0.mk hB
  clear e e1 hB
  have hU := Aside0.mk (Used_calls S M b ok p w.drew (h.below (below_drew (Below.refl _ _))) (by omega))
  obtain ⟨c0, c1, c2, c3, c4⟩ := h.cells
  rw [hd] at c4
  have h' := Aside0.mk h
  have hn' := Aside0.mk hn
  have hok' := Aside0.mk hok
  have hC' := Aside0.mk hC
  have hL' := Aside0.mk hL
  obtain ⟨U, hUU⟩ : ∃ U, used S.L = U := ⟨_, rfl⟩
  obtain ⟨r, hrr⟩ : ∃ r, S.room = r := ⟨_, rfl⟩
  rw [hUU] at hU hu hf
  rw [hrr] at c1 hf
  have hcw : IntKind.i64.wrap ((U : Int) + (L.length : Int)) = (U : Int) + (L.length : Int) := by simp [IntKind.wrap, IntKind.signed, IntKind.bits]; omega
  have hn0' : ¬ (n < 0) := by omega
  have hu' := Aside0.mk hu
  have hUU' := Aside0.mk hUU
  have hrr' := Aside0.mk hrr
  clear h hn hok hC hL hu hd hn0 hUU hrr c0 c2 c3

  go_enter Try.func23, Try.ntmps23
  go_upto_region 7 with fail
  go_region_held3 (fun w' => w'.cell? ⟨p, 1, none⟩ = some (.int .i64 r))
    (first | (exact c1) | (exact keepx c1 hX1.out))
    (first
      | (go_at_call 27; (with_reducible refine hU.out.mono ?_); rintro e w1 ⟨rfl, hb1⟩; have hX1 : Aside0 (Below w.heap.size w w1) := ⟨(below_drew (Below.refl _ _)).trans hb1⟩; clear hb1)
      | fail)
  have h1 := h'.out.below hX1.out
  have hb := Aside0.mk (burn_calls S M b ok p w1 h1)
  rw [hB'.out] at hb
  obtain ⟨d0, d1, d2, d3, d4⟩ := h1.cells
  have h1' := Aside0.mk h1
  clear h1 d1 d2 d3 d4 c1 c4
  have hnil : ∀ W : World, (binOp BinOp.eql 77 (.map (some b)) (.map none)).run Try.prog W = .ok (.bool false) W := fun W => run_eql_map_nil (P := Try.prog) W 77 3 86 (some b) Try.underlying77
  have hsg := Aside0.mk (h'.out.sg0 hx)
  have hxx := Aside0.mk hx
  have hlen5 : Aside0 (([] : List Int).length ≤ 50000000) := ⟨by simp⟩
  clear hx
  go_upto_region 11 with (first
    | (go_at_call 51; (with_reducible refine hb.out.mono ?_); rintro e w2 ⟨rfl, h2, k2⟩; have h2' := Aside0.mk h2; have k2' := Aside0.mk ((Fz.of_below hX1.out ok).trans k2); clear h2 k2)
    | fail)
  obtain ⟨d0, d1, d2, d3, d4⟩ := h2'.out.cells
  have hlk5 := h2'.out.lookN hn'.out hxx.out
  clear d1 d2 d3 d4
  go_upto_region 14 with fail
  obtain ⟨w5, hrun5, h5, k5, hx5, hs5⟩ := h2'.out.fresh (fun k hk => hok'.out k (Nat.le_trans k2'.out.size hk)) hn'.out hxx.out
  obtain ⟨g, hgd⟩ : ∃ g, w2.heap.size = g := ⟨_, rfl⟩
  rw [hgd] at hrun5 h5 hx5
  have hgd' := Aside0.mk hgd
  have hrun5' := Aside0.mk hrun5
  have h5' := Aside0.mk h5
  have k5' := Aside0.mk k5
  have hx5' := Aside0.mk hx5
  have hs5' := Aside0.mk hs5
  obtain ⟨x0, x1, x2, x3, x4⟩ := h5.cells
  have hlk6 := h5.lookS hn'.out hx5
  simp only [] at hlk6
  clear hlk5 hrun5 h5 k5 hx5 hs5 x1 x2 x3 x4
  go_upto_region 15 with (first
    | (at_mapUpdate; refine wpList_update_run rfl _ _ _ 77 rfl (.map (some b)) (.int .i64 n) (.pointer (some ⟨g, 0, none⟩)) rfl rfl (by rw [← hgd]; rfl) (R := fun z => w5 = z) ⟨w5, hrun5'.out, rfl⟩ ?_; rintro z rfl)
    | fail)
  clear hgd
  go_upto_region 16 with fail
  have hs5 := h5'.out.seg hx5'.out
  have hrow5 := Aside0.mk hs5.row
  simp only [] at hrow5 hs5
  obtain ⟨z0, z1⟩ := hs5.cells
  simp only [] at z0
  have hs5' := Aside0.mk hs5
  have hC5 := Aside0.mk (show Kd.C (Kd.int .u8) w5 A L.length L from hCC.out w5 (k2'.out.trans k5'.out))
  have f5 := blk_frozen hs5.blk 0
  simp only [] at f5
  clear hs5 z1
  go_wp2_with (first
    | ((with_reducible refine gate_builtin (b := .append) (xs := #[.tmp 67, .tmp 68]) rfl ?_); at_builtin
       refine Kd.R_append_row (Value.int .u8) 0 (w0 := w5) 0 rfl (.tmp 67) (.tmp 68) 30 5 (.int .u8 0) 1 rfl Try.underlying30 info5' rfl (by decide) (.slice none 0 0) [] L A L.length cp ok rfl rfl (fun k hk => hok'.out k (Nat.le_trans (k2'.out.trans k5'.out).size hk)) hrow5.out hC5.out (Below.refl _ _) (Nat.zero_le _) (by have := hL'.out; have := hlen5.out; (try simp only [List.length_nil]); omega) ?_
       intro v6 w6 hR6 hB6 hg6 hat6
       obtain ⟨A6, c6, e6, hc6, hC6⟩ := Kd.R_reads hR6
       subst e6
       have hR6' := Aside0.mk hR6
       have hg6' := Aside0.mk hg6
       have hat6' := Aside0.mk hat6
       have hne6 : some g ≠ Value.ownBlock (.slice none 0 0) := Kd.R_ne hrow5.out hs5'.out.blk (by decide)
       have z6 : w6.cell? ⟨g, 0, none⟩ = some (.slice none 0 0) := (blk_cell (blk_grown hs5'.out.blk hg6 hne6) 0).trans rfl
       have u6 := blk_frozen (blk_grown hs5'.out.blk hg6 hne6) 0
       clear hg6 hat6 hR6 hB6 hc6 hC6 hne6)
    | fail)
  go_ret
  have hfin := h5'.out.grow (S' := B.withL (mput S.L n ((sg S.L n).1 ++ L, (sg S.L n).2))) hx5'.out hR6'.out hg6'.out hat6'.out (by rw [hsg.out]; show mput S.L n ([] ++ L, 0) = mput (mput B.L n ([], 0)) n ([] ++ L, 0); rw [put_put, e1'.out]) rfl
  simp only [List.length_append, List.nil_append] at hfin
  exact ⟨rfl, ⟨_, _, hfin.1⟩, (k2'.out.trans k5'.out).trans hfin.2⟩
theorem Append_calls (S : DSt) (n : Int) (L : List Int) (A : Option Addr) (cp : Nat) (ok : Nat → Prop) (p : Nat) (w : World) (hok : ∀ k, w.heap.size ≤ k → ok k) (h : IsD ok w p S) (hn : domI n) (hu : used S.L ≤ 50000000) (hL : L.length ≤ 1000000) (hC : Kd.C (Kd.int .u8) w A L.length L) (hcc : ∀ w1, Fz ok w w1 → Kd.C (Kd.int .u8) w1 A L.length L) :
    Calls Try.prog 23 #[.pointer (some ⟨p, 0, none⟩), .int .i64 n, .slice A L.length cp] w fun e w' => e = .returned (.int .i64 (dappend S n L).2) ∧ IsD ok w' p (dappend S n L).1 ∧ Fz ok w w' := by
  obtain ⟨M, b, h⟩ := h
  cases hd : S.down with
  | true => exact Append_down S M b n L A cp ok p w hok h hn hu hL hC hd
  | false =>
    by_cases hn0 : n < 0
    · exact Append_neg S M b n L A cp ok p w hok h hn hu hL hC hd hn0
    · have hn1 : 0 ≤ n := by omega
      by_cases hf : (used S.L : Int) + L.length > S.room
      · exact Append_full S M b n L A cp ok p w hok h hn hu hL hC hd hn1 hf
      · cases hy : (burn S).2 with
        | false => exact Append_burnt S M b n L A cp ok p w hok h hn hu hL hC hd hn1 hf hy
        | true =>
          cases hx : mlook M n with
          | none => exact Append_new' S M b n L A cp ok p w hok h hn hu hL hC hd hn1 hf hy ⟨hcc⟩ hx
          | some x => exact Append_old S M b n L A cp ok p w hok h hn hu hL hC hd hn1 hf hy ⟨hcc⟩ x hx
end Go.Proofs.Ytnplnelhodnonaa.Dsk
