-- Written by fprint.py (wip), by way of the printer's functions; where they are turned, by texts of mine.
import Derived.Test.YtjghlomkimoeoaaPConfigAsksx0
namespace Go.Proofs.Ytjghlomkimoeoaa.PConfigAsks
open Go.RowKit Go.Proofs.YtjghlomkimoeoaaW.PrintWords Go.Proofs.YtjghlomkimoeoaaW.PrintLast Go.Proofs.YtjghlomkimoeoaaW.PrintMore
attribute [local go_sem] max2_int min2_int max_two min_two max_three min_three max_four min_four   -- for this text's walks alone
set_option linter.unusedVariables false
set_option linter.unusedSimpArgs false
theorem kz2_1 {p_ : Prop} (h_ : p_ := by repeat (first | (with_reducible first | exact HB.out | apply below_alloc | apply pw_below_drewN | apply below_drew1 | refine below_set ?_ GE102.out) | exact HB.out)) : p_ := h_
theorem kz2_2 {p_ : Prop} (h_ : p_ := by repeat (first | (with_reducible first | exact HB.out | apply below_alloc | apply pw_below_drewN | apply below_drew1) | exact HB.out)) : p_ := h_
theorem kz2_3 {p_ : Prop} (h_ : p_ := by (with_reducible repeat (first | apply Kd.R_alloc | apply Kd.R_drewN | apply Kd.R_drew)); exact HO_3.out) : p_ := h_
theorem kz2_4 {p_ : Prop} (h_ : p_ := by first | (with_reducible assumption) | assumption) : p_ := h_
theorem kz2_5 {p_ : Prop} (h_ : p_ := by (with_reducible repeat (first | refine blk_drewN ?_ _ | refine blk_drew ?_ | refine blk_alloc ?_ _)); exact BK102.out) : p_ := h_

/-! ### tree_Formed: function 80 -/
mutual
def tree_Formed.l0 : Nat → List (S86) → List Int → List (S86) → Int → Int → Option (Bool)
 | 0, _, _, _, _, _ => none
 | k + 1, x0, x3, x10, x11, x12 => if x12 < x11 then (if 0 ≤ x12 then (if x12 < (x10.length : Int) then (tree_Formed.l1 k x0 x3 x12 x10 x11 x12 ((rd_T86 x10 x12).f0) ((rd_T86 x10 x12).f1) ((rd_T86 x10 x12).f2) ((rd_T86 x10 x12).f3) ((rd_T86 x10 x12).f4) ((rd_T86 x10 x12).f5) ((rd_T86 x10 x12).f6)) else (none)) else (none)) else (tree_Formed.l2 k x0 x3 (x3.length : Int) 0)
def tree_Formed.l1 : Nat → List (S86) → List Int → Int → List (S86) → Int → Int → ByteArray → Int → Int → Int → Bool → Bool → Bool → Option (Bool)
 | 0, _, _, _, _, _, _, _, _, _, _, _, _, _ => none
 | k + 1, x0, x3, x4, x10, x11, x12, x103000, x103001, x103002, x103003, x103004, x103005, x103006 => if (x3.length : Int) > 0 then (if 0 ≤ (wrap64 ((x3.length : Int) - 1)) then (if (wrap64 ((x3.length : Int) - 1)) < (x3.length : Int) then (tree_Formed.j2 k x0 x3 x4 x10 x11 x12 ((rd x3 (wrap64 ((x3.length : Int) - 1))) != x103001) x103000 x103001 x103002 x103003 x103004 x103005 x103006) else (none)) else (none)) else (tree_Formed.j2 k x0 x3 x4 x10 x11 x12 false x103000 x103001 x103002 x103003 x103004 x103005 x103006)
def tree_Formed.j2 : Nat → List (S86) → List Int → Int → List (S86) → Int → Int → Bool → ByteArray → Int → Int → Int → Bool → Bool → Bool → Option (Bool)
 | 0, _, _, _, _, _, _, _, _, _, _, _, _, _, _ => none
 | k + 1, x0, x3, x4, x10, x11, x12, x30, x103000, x103001, x103002, x103003, x103004, x103005, x103006 => if x30 = true then (if 0 ≤ (wrap64 ((x3.length : Int) - 1)) then (if (wrap64 ((x3.length : Int) - 1)) < (x3.length : Int) then (if 0 ≤ (rd x3 (wrap64 ((x3.length : Int) - 1))) then (if (rd x3 (wrap64 ((x3.length : Int) - 1))) < (x0.length : Int) then (if ((rd_T86 x0 (rd x3 (wrap64 ((x3.length : Int) - 1)))).f3) = x4 then (if (wrap64 ((x3.length : Int) - 1)) ≤ (x3.length : Int) then (tree_Formed.l1 k x0 (x3.take ((wrap64 ((x3.length : Int) - 1)) : Int).toNat) x4 x10 x11 x12 x103000 x103001 x103002 x103003 x103004 x103005 x103006) else (none)) else (some false)) else (none)) else (none)) else (none)) else (none)) else (if (x3.length : Int) = 0 then (if x103001 = (-1) then (if x103002 = (x3.length : Int) then (if (x103006 != (x103003 == (wrap64 (x4 + 1)))) = true then (some false) else (if x3.length < 17592186044416 then (tree_Formed.l0 k x0 (x3 ++ [x4]) x10 x11 (wrap64 (x12 + 1))) else (none))) else (some false)) else (some false)) else (if x103002 = (x3.length : Int) then (if (x103006 != (x103003 == (wrap64 (x4 + 1)))) = true then (some false) else (if x3.length < 17592186044416 then (tree_Formed.l0 k x0 (x3 ++ [x4]) x10 x11 (wrap64 (x12 + 1))) else (none))) else (some false)))
def tree_Formed.l2 : Nat → List (S86) → List Int → Int → Int → Option (Bool)
 | 0, _, _, _, _ => none
 | k + 1, x0, x83, x84, x85 => if x85 < x84 then (if 0 ≤ x85 then (if x85 < (x83.length : Int) then (if 0 ≤ (rd x83 x85) then (if (rd x83 x85) < (x0.length : Int) then (if ((rd_T86 x0 (rd x83 x85)).f3) = (x0.length : Int) then (tree_Formed.l2 k x0 x83 x84 (wrap64 (x85 + 1))) else (some false)) else (none)) else (none)) else (none)) else (none)) else (some true)
end
def tree_Formed.f (k : Nat) (l0 : List (S86)) : Option (Bool) := if (l0.length : Int) > 40 then (some false) else (tree_Formed.l0 k l0 ([] : List Int) l0 (l0.length : Int) 0)
theorem tree_Formed.mono_l : ∀ k, (∀ y0 y1 y2 y3 y4, LeO (tree_Formed.l0 k y0 y1 y2 y3 y4) (tree_Formed.l0 (k + 1) y0 y1 y2 y3 y4)) ∧ (∀ y0 y1 y2 y3 y4 y5 y6 y7 y8 y9 y10 y11 y12, LeO (tree_Formed.l1 k y0 y1 y2 y3 y4 y5 y6 y7 y8 y9 y10 y11 y12) (tree_Formed.l1 (k + 1) y0 y1 y2 y3 y4 y5 y6 y7 y8 y9 y10 y11 y12)) ∧ (∀ y0 y1 y2 y3 y4 y5 y6 y7 y8 y9 y10 y11 y12 y13, LeO (tree_Formed.j2 k y0 y1 y2 y3 y4 y5 y6 y7 y8 y9 y10 y11 y12 y13) (tree_Formed.j2 (k + 1) y0 y1 y2 y3 y4 y5 y6 y7 y8 y9 y10 y11 y12 y13)) ∧ (∀ y0 y1 y2 y3, LeO (tree_Formed.l2 k y0 y1 y2 y3) (tree_Formed.l2 (k + 1) y0 y1 y2 y3))
 | 0 => ⟨fun _ _ _ _ _ r h => by simp [tree_Formed.l0] at h, fun _ _ _ _ _ _ _ _ _ _ _ _ _ r h => by simp [tree_Formed.l1] at h, fun _ _ _ _ _ _ _ _ _ _ _ _ _ _ r h => by simp [tree_Formed.j2] at h, fun _ _ _ _ r h => by simp [tree_Formed.l2] at h⟩
 | k + 1 => by
  obtain ⟨ih0, ih1, ih2, ih3⟩ := tree_Formed.mono_l k
  refine ⟨?_, ?_, ?_, ?_⟩
  ·intro y0 y1 y2 y3 y4
   unfold tree_Formed.l0
   repeat' first
   | (with_reducible exact ih0 _ _ _ _ _)
   | (with_reducible exact ih1 _ _ _ _ _ _ _ _ _ _ _ _ _)
   | (with_reducible exact ih2 _ _ _ _ _ _ _ _ _ _ _ _ _ _)
   | (with_reducible exact ih3 _ _ _ _)
   | (with_reducible exact LeO.refl _)
   | (with_reducible exact LeO.none _)
   | (with_reducible refine LeO.ite ?_ ?_)
   | (with_reducible refine LeO.bind ?_ (fun _ => ?_))
   | exact ih0 _ _ _ _ _
   | exact ih1 _ _ _ _ _ _ _ _ _ _ _ _ _
   | exact ih2 _ _ _ _ _ _ _ _ _ _ _ _ _ _
   | exact ih3 _ _ _ _
   | exact LeO.none _
   | refine LeO.ite ?_ ?_
   | refine LeO.bind ?_ (fun _ => ?_)
  ·intro y0 y1 y2 y3 y4 y5 y6 y7 y8 y9 y10 y11 y12
   unfold tree_Formed.l1
   repeat' first
   | (with_reducible exact ih0 _ _ _ _ _)
   | (with_reducible exact ih1 _ _ _ _ _ _ _ _ _ _ _ _ _)
   | (with_reducible exact ih2 _ _ _ _ _ _ _ _ _ _ _ _ _ _)
   | (with_reducible exact ih3 _ _ _ _)
   | (with_reducible exact LeO.refl _)
   | (with_reducible exact LeO.none _)
   | (with_reducible refine LeO.ite ?_ ?_)
   | (with_reducible refine LeO.bind ?_ (fun _ => ?_))
   | exact ih0 _ _ _ _ _
   | exact ih1 _ _ _ _ _ _ _ _ _ _ _ _ _
   | exact ih2 _ _ _ _ _ _ _ _ _ _ _ _ _ _
   | exact ih3 _ _ _ _
   | exact LeO.none _
   | refine LeO.ite ?_ ?_
   | refine LeO.bind ?_ (fun _ => ?_)
  ·intro y0 y1 y2 y3 y4 y5 y6 y7 y8 y9 y10 y11 y12 y13
   unfold tree_Formed.j2
   repeat' first
   | (with_reducible exact ih0 _ _ _ _ _)
   | (with_reducible exact ih1 _ _ _ _ _ _ _ _ _ _ _ _ _)
   | (with_reducible exact ih2 _ _ _ _ _ _ _ _ _ _ _ _ _ _)
   | (with_reducible exact ih3 _ _ _ _)
   | (with_reducible exact LeO.refl _)
   | (with_reducible exact LeO.none _)
   | (with_reducible refine LeO.ite ?_ ?_)
   | (with_reducible refine LeO.bind ?_ (fun _ => ?_))
   | exact ih0 _ _ _ _ _
   | exact ih1 _ _ _ _ _ _ _ _ _ _ _ _ _
   | exact ih2 _ _ _ _ _ _ _ _ _ _ _ _ _ _
   | exact ih3 _ _ _ _
   | exact LeO.none _
   | refine LeO.ite ?_ ?_
   | refine LeO.bind ?_ (fun _ => ?_)
  ·intro y0 y1 y2 y3
   unfold tree_Formed.l2
   repeat' first
   | (with_reducible exact ih0 _ _ _ _ _)
   | (with_reducible exact ih1 _ _ _ _ _ _ _ _ _ _ _ _ _)
   | (with_reducible exact ih2 _ _ _ _ _ _ _ _ _ _ _ _ _ _)
   | (with_reducible exact ih3 _ _ _ _)
   | (with_reducible exact LeO.refl _)
   | (with_reducible exact LeO.none _)
   | (with_reducible refine LeO.ite ?_ ?_)
   | (with_reducible refine LeO.bind ?_ (fun _ => ?_))
   | exact ih0 _ _ _ _ _
   | exact ih1 _ _ _ _ _ _ _ _ _ _ _ _ _
   | exact ih2 _ _ _ _ _ _ _ _ _ _ _ _ _ _
   | exact ih3 _ _ _ _
   | exact LeO.none _
   | refine LeO.ite ?_ ?_
   | refine LeO.bind ?_ (fun _ => ?_)
theorem tree_Formed.mono : ∀ a0 k, LeO (tree_Formed.f k a0) (tree_Formed.f (k + 1) a0) := by
 intro a0 k
 obtain ⟨ih0, ih1, ih2, ih3⟩ := tree_Formed.mono_l k
 unfold tree_Formed.f
 repeat' first
   | (with_reducible exact ih0 _ _ _ _ _)
   | (with_reducible exact ih1 _ _ _ _ _ _ _ _ _ _ _ _ _)
   | (with_reducible exact ih2 _ _ _ _ _ _ _ _ _ _ _ _ _ _)
   | (with_reducible exact ih3 _ _ _ _)
   | (with_reducible exact LeO.refl _)
   | (with_reducible exact LeO.none _)
   | (with_reducible refine LeO.ite ?_ ?_)
   | (with_reducible refine LeO.bind ?_ (fun _ => ?_))
   | exact ih0 _ _ _ _ _
   | exact ih1 _ _ _ _ _ _ _ _ _ _ _ _ _
   | exact ih2 _ _ _ _ _ _ _ _ _ _ _ _ _ _
   | exact ih3 _ _ _ _
   | exact LeO.none _
   | refine LeO.ite ?_ ?_
   | refine LeO.bind ?_ (fun _ => ?_)
theorem box_cell_ {w w' : World} {b t : Nat} {v : Value} (h : w.heap[b]? = some (.cells #[v] t (0, 0))) (hb : Below w.heap.size w w') : w'.cell? ⟨b, 0, none⟩ = some v :=
 (hb.cell (World.block_lt_of_cell? w _ ((blk_cell h 0).trans rfl))).trans ((blk_cell h 0).trans rfl)
set_option maxHeartbeats 2000000 in
set_option maxRecDepth 100000 in
theorem tree_Formed.clo (l : List S86) (A : Option Addr) (c : Nat) (i : Int) (h0 : 0 ≤ i) (h1 : i < (l.length : Int)) (bx : Nat) (w : World) (hC : Kd.C k86 w A l.length l) (hbx : w.heap[bx]? = some (.cells #[.slice A l.length c] 43 (0, 0))) :
  Calls Try.prog 111 #[.int .i64 i, .pointer (some ⟨bx, 0, none⟩)] w fun e w' => e = .returned (.bool ((rd_T86 l i).f3 != (l.length : Int))) ∧ Below w.heap.size w w' := by
 have cbx := box_cell_ hbx (Below.refl _ _)
 obtain ⟨ad1, e1, x0, x1, x2, x3, x4, x5, x6⟩ := at_T86 hC i h0 h1
 cases e1
 obtain ⟨x, hx⟩ : ∃ x, rd_T86 l i = x := ⟨_, rfl⟩
 rw [hx] at x0 x1 x2 x3 x4 x5 x6 ⊢
 clear hx
 skip
 all_goals
  go_enter Try.func111, Try.ntmps111
  go_wp2
  repeat (go_quiet (fail); try go_wp2)
  go_ret
  exact ⟨rfl, by repeat (first | exact Below.refl _ _ | apply below_alloc | apply pw_below_drewN | apply below_drew)⟩
set_option maxHeartbeats 4000000 in
set_option maxRecDepth 100000 in
theorem tree_Formed.idx (k : Nat) (l : List S86) (row : List Int) (A B : Option Addr) (c d bx : Nat) (w : World) (hC : Kd.C k86 w A l.length l) (hR : Kd.C (Kd.int .i64) w B row.length row) (hbx : w.heap[bx]? = some (.cells #[.slice A l.length c] 43 (0, 0))) (r : Bool) (h : tree_Formed.l2 k l row (row.length : Int) 0 = some r) :
  Calls Try.prog 114 #[.slice B row.length d, .func (.func 111) #[] #[.pointer (some ⟨bx, 0, none⟩)]] w fun e w' => ∃ j : Int, e = .returned (.int .i64 j) ∧ decide (0 ≤ j) = !r ∧ Below w.heap.size w w' := by
 have hC' := Aside0.mk hC
 have hR' := Aside0.mk hR
 have hbx' := Aside0.mk hbx
 have h' := Aside0.mk h
 clear hC hR hbx h
 go_enter Try.func114, Try.ntmps114
 go_wp2_with fail
 go_loopg [8] k (fun kq v8 w' => ∃ i : Int, v8 = .int .i64 i ∧ Aside0 (tree_Formed.l2 kq l row (row.length : Int) i = some r) ∧ Aside0 (kq ≤ k) ∧ Aside0 (Below w.heap.size w w'))
 case atStart => exact ⟨0, rfl, h', ⟨Nat.le_refl _⟩, ⟨Below.refl _ _⟩⟩
 case round =>
  obtain ⟨i, rfl, HA, HK1, HB⟩ := hrel
  clear h'
  cases gk with
  | zero => exact absurd HA.out (by simp [tree_Formed.l2])
  | succ k1 =>
   have H := HA.out
   clear HA
   simp only [tree_Formed.l2] at H
   by_cases c1 : i < (row.length : Int)
   ·rw [if_pos c1] at H
    have c1b0 : decide (i < (row.length : Int)) = true := decide_eq_true c1
    by_cases c2 : 0 ≤ i
    ·rw [if_pos c2, if_pos c1] at H
     have c2b0 : decide (0 ≤ i) = true := decide_eq_true c2
     by_cases c3 : 0 ≤ rd row i
     ·rw [if_pos c3] at H
      by_cases c4 : rd row i < (l.length : Int)
      ·rw [if_pos c4] at H
       have hcl := Aside0.mk (tree_Formed.clo l A c (rd row i) c3 c4 bx wr (Kd.C_below hC'.out HB.out) (blk_below hbx'.out HB.out))
       obtain ⟨ad1, e1, hx1⟩ := Kd.at_int (Kd.C_below hR'.out HB.out) i c2 c1
       cases e1
       obtain ⟨q, hq⟩ : ∃ q, rd row i = q := ⟨_, rfl⟩
       rw [hq] at hcl hx1 H
       clear c3 c4 hq
       by_cases c5 : (rd_T86 l q).f3 = (l.length : Int)
       ·rw [if_pos c5] at H
        have H' := Aside0.mk H
        have hcl' : Aside0 (Calls Try.prog 111 #[.int .i64 q, .pointer (some ⟨bx, 0, none⟩)] wr fun e w' => e = .returned (.bool false) ∧ Below wr.heap.size wr w') := ⟨by have h2 := hcl.out; rw [show ((rd_T86 l q).f3 != (l.length : Int)) = false from bne_eq_false_iff_eq.mpr c5] at h2; exact h2⟩
        have c2' := eq_true c2
        have c1' := eq_true c1
        clear H hcl c5 c1 c2
        go_wp2_with (first
         | (go_at_call 111; (with_reducible refine hcl'.out.mono ?_); rintro e w1 ⟨rfl, hb1⟩; have HB1 : Aside0 (Below w.heap.size w w1) := ⟨below_step HB.out hb1⟩; clear hb1)
         | fail)
        go_roundg k1
        case measure => have := HK1.out; omega
        case rel => exact ⟨(wrap64 (i + 1)), (by first | rfl | (simp; done) | (simp [*]; done)), H', ⟨by have := HK1.out; omega⟩, HB1⟩
       ·rw [if_neg c5] at H
        obtain rfl := Option.some.inj H
        have hcl' : Aside0 (Calls Try.prog 111 #[.int .i64 q, .pointer (some ⟨bx, 0, none⟩)] wr fun e w' => e = .returned (.bool true) ∧ Below wr.heap.size wr w') := ⟨by have h2 := hcl.out; rw [show ((rd_T86 l q).f3 != (l.length : Int)) = true from bne_iff_ne.mpr c5] at h2; exact h2⟩
        have c2'' := Aside0.mk c2
        have c2' := eq_true c2
        have c1' := eq_true c1
        clear H hcl c5 c1 c2
        go_wp2_with (first
         | (go_at_call 111; (with_reducible refine hcl'.out.mono ?_); rintro e w1 ⟨rfl, hb1⟩; have HB1 : Aside0 (Below w.heap.size w w1) := ⟨below_step HB.out hb1⟩; clear hb1)
         | fail)
        go_ret
        exact ⟨_, rfl, by simp [c2''.out], HB1.out⟩
      ·rw [if_neg c4] at H
       exact absurd H (by simp)
     ·rw [if_neg c3] at H
      exact absurd H (by simp)
    ·rw [if_neg c2] at H
     exact absurd H (by simp)
   ·rw [if_neg c1] at H
    have c1b0 : decide (i < (row.length : Int)) = false := decide_eq_false c1
    obtain rfl := Option.some.inj H
    clear H c1
    go_wp2_with fail
    go_ret
    exact ⟨_, rfl, by decide, HB.out⟩
set_option maxHeartbeats 4000000 in
set_option maxRecDepth 100000 in
theorem tree_Formed.con (k : Nat) (l : List S86) (row : List Int) (A B : Option Addr) (c d bx : Nat) (w : World) (hC : Kd.C k86 w A l.length l) (hR : Kd.C (Kd.int .i64) w B row.length row) (hbx : w.heap[bx]? = some (.cells #[.slice A l.length c] 43 (0, 0))) (r : Bool) (h : tree_Formed.l2 k l row (row.length : Int) 0 = some r) :
  Calls Try.prog 90 #[.slice B row.length d, .func (.func 111) #[] #[.pointer (some ⟨bx, 0, none⟩)]] w fun e w' => e = .returned (.bool (!r)) ∧ Below w.heap.size w w' := by
 have hI := Aside0.mk (tree_Formed.idx k l row A B c d bx w hC hR hbx r h)
 clear h hC hR hbx
 go_enter Try.func90, Try.ntmps90
 go_wp2_with (first | (go_at_call 114; (with_reducible refine hI.out.mono ?_); rintro e w1 ⟨j, rfl, hj, hb⟩; have hj' := Aside0.mk hj; have hb' := Aside0.mk hb; clear hj hb) | fail)
 go_ret
 exact ⟨by rw [← hj'.out]; rfl, hb'.out⟩
set_option maxHeartbeats 8000000 in
set_option maxRecDepth 100000 in
theorem tree_Formed.calls (k : Nat) (A0 : Option Addr) (c0 : Nat) (l0 : List (S86)) (r : Bool) (w : World) (hr0 : Kd.C k86 w A0 l0.length l0) (hc0 : l0.length ≤ c0) (h : tree_Formed.f k l0 = some r) :
  Calls Try.prog 80 #[.slice A0 l0.length c0] w fun e w' => e = .returned (.bool r) ∧ Below w.heap.size w w' := by
 obtain ⟨W1_, hW1_⟩ : ∃ W, w.alloc (.cells #[.slice A0 l0.length c0] 43) = W := ⟨_, rfl⟩
 have hbw_ : Below w.heap.size w W1_ := by rw [← hW1_]; exact below_alloc (Below.refl _ _) _
 obtain ⟨bx_, hbe_⟩ : ∃ b, w.heap.size = b := ⟨_, rfl⟩
 have hbx_ : Aside0 (W1_.heap[bx_]? = some (.cells #[.slice A0 l0.length c0] 43 (0, 0))) := ⟨by rw [← hW1_, ← hbe_]; exact blk_new _ _⟩
 refine Calls.mono (R := fun e w' => e = .returned (.bool r) ∧ Below W1_.heap.size W1_ w') ?_ (fun e w' h => ⟨h.1, below_step hbw_ h.2⟩)
 replace hr0 := Kd.C_below hr0 hbw_
 have hbw2_ := Aside0.mk hbw_
 clear hbw_
 have hu86 := Try.underlying86
 have HR0 := Aside0.mk hr0
 have HC0 := Aside0.mk hc0
 clear hr0 hc0
 have HB := Aside0.mk (Below.refl W1_.heap.size W1_)
 have H : (if (l0.length : Int) > 40 then (some false) else (tree_Formed.l0 k l0 ([] : List Int) l0 (l0.length : Int) 0)) = some r := h
 clear h
 go_enter Try.func80, Try.ntmps80
 go_upto_region 1 with fail
 clear hW1_
 have cbx_ := box_cell_ hbx_.out HB.out
 by_cases c2 : (l0.length : Int) > 40
 ·rw [if_pos c2] at H
  have c2b0 : decide (40 < (l0.length : Int)) = true := decide_eq_true c2
  have c2b1 : decide (40 < l0.length) = true := decide_eq_true (by omega)
  clear c2
  obtain rfl := Option.some.inj H
  go_wp2
  repeat (go_quiet (fail); try go_wp2)
  go_ret
  exact ⟨by first | rfl | (simp [errW_none, errW_some] <;> rfl) | (simp [*, errW_none, errW_some] <;> rfl), by repeat (first | (with_reducible first | exact HB.out | apply below_alloc | apply pw_below_drewN | apply below_drew1) | exact HB.out)⟩
 ·rw [if_neg c2] at H
  have c2b0 : decide (40 < (l0.length : Int)) = false := decide_eq_false c2
  have c2b1 : decide (40 < l0.length) = false := decide_eq_false (by omega)
  clear c2
  have H' := Aside0.mk H
  clear H
  go_wp2
  repeat (go_quiet (fail); try go_wp2)
  go_loopg [3, 12] k (fun kq v3 v12 w' => ∃ (x3_1 : List Int) (x12_1 : Int), v12 = .int .i64 x12_1 ∧ Aside0 (tree_Formed.l0 kq l0 x3_1 l0 (l0.length : Int) x12_1 = some r) ∧ Aside0 (kq ≤ k) ∧ Aside0 (Kd.R (Kd.int .i64) 3 w' W1_.heap.size (fun _ => True) v3 x3_1) ∧ Aside0 (Below W1_.heap.size W1_ w'))
  case atStart => exact ⟨(([] : List Int)), (0), (by first | rfl | (simp; done) | (simp [*]; done)), H', ⟨Nat.le_refl _⟩, ⟨by first | exact Kd.R_nil _ _ _ _ _ | exact Kd.N_nil _ _ _ _ _ | exact Kd.V_nil _ _ _ _ _ | exact Kd.Q_nil _ _ _ _ _ | exact Kd.S_nil _ _ _ _ _⟩, ⟨by repeat (first | (with_reducible first | exact HB.out | apply below_alloc | apply pw_below_drewN | apply below_drew1) | exact HB.out)⟩⟩
  case round =>
   clear H'
   try clear c2
   try clear c2b0
   try clear c2b1
   try clear p2
   obtain ⟨x3_1, x12_1, rfl, HA, HK1, HO_3, HB⟩ := hrel
   have cbx_ := box_cell_ hbx_.out HB.out
   cases gk with
   | zero => exact absurd HA.out (by simp [tree_Formed.l0])
   | succ k1 =>
    have H := HA.out
    clear HA
    simp only [tree_Formed.l0] at H
    by_cases c3 : x12_1 < (l0.length : Int)
    ·rw [if_pos c3] at H
     have c3b0 : decide (x12_1 < (l0.length : Int)) = true := decide_eq_true c3
     clear c3
     by_cases c4 : 0 ≤ x12_1
     ·rw [if_pos c4] at H
      have c4b0 : decide (0 ≤ x12_1) = true := decide_eq_true c4
      clear c4
      by_cases c5 : x12_1 < (l0.length : Int)
      ·rw [if_pos c5] at H
       have c5b0 : decide (x12_1 < (l0.length : Int)) = true := decide_eq_true c5
       clear c5
       have H' := Aside0.mk H
       clear H
       have p101 : 0 ≤ (x12_1 : Int) := of_decide_eq_true kz2_4
       have q101 : x12_1 < (l0.length : Int) := of_decide_eq_true kz2_4
       obtain ⟨ad101, e101, hx101_0, hx101_1, hx101_2, hx101_3, hx101_4, hx101_5, hx101_6⟩ := at_T86 HR0.out x12_1 p101 q101
       cases e101
       replace hx101_0 := (HB.out.cell (World.block_lt_of_cell? W1_ _ hx101_0)).trans hx101_0
       replace hx101_1 := (HB.out.cell (World.block_lt_of_cell? W1_ _ hx101_1)).trans hx101_1
       replace hx101_2 := (HB.out.cell (World.block_lt_of_cell? W1_ _ hx101_2)).trans hx101_2
       replace hx101_3 := (HB.out.cell (World.block_lt_of_cell? W1_ _ hx101_3)).trans hx101_3
       replace hx101_4 := (HB.out.cell (World.block_lt_of_cell? W1_ _ hx101_4)).trans hx101_4
       replace hx101_5 := (HB.out.cell (World.block_lt_of_cell? W1_ _ hx101_5)).trans hx101_5
       replace hx101_6 := (HB.out.cell (World.block_lt_of_cell? W1_ _ hx101_6)).trans hx101_6
       replace p101 := eq_true p101
       replace q101 := eq_true q101
       go_wp2_with (first | ((with_reducible refine gate_dst (N := 5) rfl ?_); (try (refine gate_guard (by rfl) ?_; dsimp only)); refine box_event ?hg (N := 5) ?hd (cs := #[.string (⟨#[]⟩ : ByteArray), .int .i64 0, .int .i64 0, .int .i64 0, .bool false, .bool false, .bool false]) (t := 86) ?hr ?_; (case hd => rfl); (case hg => rfl); (case hr => first | (go_simp; done) | (go_simp; rfl)); intro gb102 hg w6 hbox hb; have n0_ := Aside0.mk (Kd.R_below kz2_3 hb); have n1_ := Aside0.mk (below_step kz2_2 hb); have n2_ := Aside0.mk (hbox); have n3_ := Aside0.mk ((by rw [hg]; exact (below_size kz2_2) : W1_.heap.size ≤ gb102)); have n4_ := Aside0.mk ((by rw [hg]; exact (below_size kz2_2) : W1_.heap.size ≤ gb102)); clear HO_3; clear HB; have HO_3 := n0_; have HB := n1_; have BK102 := n2_; have GW102 := n3_; have GE102 := n4_; clear n0_ n1_ n2_ n3_ n4_; clear hb hbox hg; have hcz7_0 : w6.cell? ⟨gb102, 0, none⟩ = some (.string (⟨#[]⟩ : ByteArray)) := (blk_cell BK102.out 0).trans rfl; have hcz7_1 : w6.cell? ⟨gb102, 1, none⟩ = some (.int .i64 0) := (blk_cell BK102.out 1).trans rfl; have hcz7_2 : w6.cell? ⟨gb102, 2, none⟩ = some (.int .i64 0) := (blk_cell BK102.out 2).trans rfl; have hcz7_3 : w6.cell? ⟨gb102, 3, none⟩ = some (.int .i64 0) := (blk_cell BK102.out 3).trans rfl; have hcz7_4 : w6.cell? ⟨gb102, 4, none⟩ = some (.bool false) := (blk_cell BK102.out 4).trans rfl; have hcz7_5 : w6.cell? ⟨gb102, 5, none⟩ = some (.bool false) := (blk_cell BK102.out 5).trans rfl; have hcz7_6 : w6.cell? ⟨gb102, 6, none⟩ = some (.bool false) := (blk_cell BK102.out 6).trans rfl; have hfz7_0 := blk_frozen BK102.out 0; have hfz7_1 := blk_frozen BK102.out 1; have hfz7_2 := blk_frozen BK102.out 2; have hfz7_3 := blk_frozen BK102.out 3; have hfz7_4 := blk_frozen BK102.out 4; have hfz7_5 := blk_frozen BK102.out 5; have hfz7_6 := blk_frozen BK102.out 6))
       repeat (go_quiet (first | ((with_reducible refine gate_dst (N := 5) rfl ?_); (try (refine gate_guard (by rfl) ?_; dsimp only)); refine box_event ?hg (N := 5) ?hd (cs := #[.string (⟨#[]⟩ : ByteArray), .int .i64 0, .int .i64 0, .int .i64 0, .bool false, .bool false, .bool false]) (t := 86) ?hr ?_; (case hd => rfl); (case hg => rfl); (case hr => first | (go_simp; done) | (go_simp; rfl)); intro gb102 hg w6 hbox hb; have n0_ := Aside0.mk (Kd.R_below kz2_3 hb); have n1_ := Aside0.mk (below_step kz2_2 hb); have n2_ := Aside0.mk (hbox); have n3_ := Aside0.mk ((by rw [hg]; exact (below_size kz2_2) : W1_.heap.size ≤ gb102)); have n4_ := Aside0.mk ((by rw [hg]; exact (below_size kz2_2) : W1_.heap.size ≤ gb102)); clear HO_3; clear HB; have HO_3 := n0_; have HB := n1_; have BK102 := n2_; have GW102 := n3_; have GE102 := n4_; clear n0_ n1_ n2_ n3_ n4_; clear hb hbox hg; have hcz7_0 : w6.cell? ⟨gb102, 0, none⟩ = some (.string (⟨#[]⟩ : ByteArray)) := (blk_cell BK102.out 0).trans rfl; have hcz7_1 : w6.cell? ⟨gb102, 1, none⟩ = some (.int .i64 0) := (blk_cell BK102.out 1).trans rfl; have hcz7_2 : w6.cell? ⟨gb102, 2, none⟩ = some (.int .i64 0) := (blk_cell BK102.out 2).trans rfl; have hcz7_3 : w6.cell? ⟨gb102, 3, none⟩ = some (.int .i64 0) := (blk_cell BK102.out 3).trans rfl; have hcz7_4 : w6.cell? ⟨gb102, 4, none⟩ = some (.bool false) := (blk_cell BK102.out 4).trans rfl; have hcz7_5 : w6.cell? ⟨gb102, 5, none⟩ = some (.bool false) := (blk_cell BK102.out 5).trans rfl; have hcz7_6 : w6.cell? ⟨gb102, 6, none⟩ = some (.bool false) := (blk_cell BK102.out 6).trans rfl; have hfz7_0 := blk_frozen BK102.out 0; have hfz7_1 := blk_frozen BK102.out 1; have hfz7_2 := blk_frozen BK102.out 2; have hfz7_3 := blk_frozen BK102.out 3; have hfz7_4 := blk_frozen BK102.out 4; have hfz7_5 := blk_frozen BK102.out 5; have hfz7_6 := blk_frozen BK102.out 6)); try go_wp2_with (first | ((with_reducible refine gate_dst (N := 5) rfl ?_); (try (refine gate_guard (by rfl) ?_; dsimp only)); refine box_event ?hg (N := 5) ?hd (cs := #[.string (⟨#[]⟩ : ByteArray), .int .i64 0, .int .i64 0, .int .i64 0, .bool false, .bool false, .bool false]) (t := 86) ?hr ?_; (case hd => rfl); (case hg => rfl); (case hr => first | (go_simp; done) | (go_simp; rfl)); intro gb102 hg w6 hbox hb; have n0_ := Aside0.mk (Kd.R_below kz2_3 hb); have n1_ := Aside0.mk (below_step kz2_2 hb); have n2_ := Aside0.mk (hbox); have n3_ := Aside0.mk ((by rw [hg]; exact (below_size kz2_2) : W1_.heap.size ≤ gb102)); have n4_ := Aside0.mk ((by rw [hg]; exact (below_size kz2_2) : W1_.heap.size ≤ gb102)); clear HO_3; clear HB; have HO_3 := n0_; have HB := n1_; have BK102 := n2_; have GW102 := n3_; have GE102 := n4_; clear n0_ n1_ n2_ n3_ n4_; clear hb hbox hg; have hcz7_0 : w6.cell? ⟨gb102, 0, none⟩ = some (.string (⟨#[]⟩ : ByteArray)) := (blk_cell BK102.out 0).trans rfl; have hcz7_1 : w6.cell? ⟨gb102, 1, none⟩ = some (.int .i64 0) := (blk_cell BK102.out 1).trans rfl; have hcz7_2 : w6.cell? ⟨gb102, 2, none⟩ = some (.int .i64 0) := (blk_cell BK102.out 2).trans rfl; have hcz7_3 : w6.cell? ⟨gb102, 3, none⟩ = some (.int .i64 0) := (blk_cell BK102.out 3).trans rfl; have hcz7_4 : w6.cell? ⟨gb102, 4, none⟩ = some (.bool false) := (blk_cell BK102.out 4).trans rfl; have hcz7_5 : w6.cell? ⟨gb102, 5, none⟩ = some (.bool false) := (blk_cell BK102.out 5).trans rfl; have hcz7_6 : w6.cell? ⟨gb102, 6, none⟩ = some (.bool false) := (blk_cell BK102.out 6).trans rfl; have hfz7_0 := blk_frozen BK102.out 0; have hfz7_1 := blk_frozen BK102.out 1; have hfz7_2 := blk_frozen BK102.out 2; have hfz7_3 := blk_frozen BK102.out 3; have hfz7_4 := blk_frozen BK102.out 4; have hfz7_5 := blk_frozen BK102.out 5; have hfz7_6 := blk_frozen BK102.out 6)))
       go_loopg [3] k1 (fun kq v3 w' => ∃ (x3_2 : List Int), Aside0 (tree_Formed.l1 kq l0 x3_2 x12_1 l0 (l0.length : Int) x12_1 ((rd_T86 l0 x12_1).f0) ((rd_T86 l0 x12_1).f1) ((rd_T86 l0 x12_1).f2) ((rd_T86 l0 x12_1).f3) ((rd_T86 l0 x12_1).f4) ((rd_T86 l0 x12_1).f5) ((rd_T86 l0 x12_1).f6) = some r) ∧ Aside0 (kq ≤ k1) ∧ Aside0 (Kd.R (Kd.int .i64) 3 w' W1_.heap.size (fun _ => True) v3 x3_2) ∧ Aside0 (w'.heap[gb102]? = some (.cells #[.string ((rd_T86 l0 x12_1).f0), .int .i64 ((rd_T86 l0 x12_1).f1), .int .i64 ((rd_T86 l0 x12_1).f2), .int .i64 ((rd_T86 l0 x12_1).f3), .bool ((rd_T86 l0 x12_1).f4), .bool ((rd_T86 l0 x12_1).f5), .bool ((rd_T86 l0 x12_1).f6)] 86 (0, 0))) ∧ Aside0 (Below W1_.heap.size W1_ w'))
       case atStart => exact ⟨(x3_1), H', ⟨Nat.le_refl _⟩, ⟨by (with_reducible repeat (first | apply Kd.R_alloc | apply Kd.R_drewN | apply Kd.R_drew)); exact Kd.R_mono (Kd.R_far (p := ⟨gb102, 6, none⟩) (Kd.R_far (p := ⟨gb102, 5, none⟩) (Kd.R_far (p := ⟨gb102, 4, none⟩) (Kd.R_far (p := ⟨gb102, 3, none⟩) (Kd.R_far (p := ⟨gb102, 2, none⟩) (Kd.R_far (p := ⟨gb102, 1, none⟩) (Kd.R_far (p := ⟨gb102, 0, none⟩) (Kd.R_types HO_3.out BK102.out (by decide)) (fun _ hk => hk.2) (.string ((rd_T86 l0 x12_1).f0))) (fun _ hk => hk.2) (.int .i64 ((rd_T86 l0 x12_1).f1))) (fun _ hk => hk.2) (.int .i64 ((rd_T86 l0 x12_1).f2))) (fun _ hk => hk.2) (.int .i64 ((rd_T86 l0 x12_1).f3))) (fun _ hk => hk.2) (.bool ((rd_T86 l0 x12_1).f4))) (fun _ hk => hk.2) (.bool ((rd_T86 l0 x12_1).f5))) (fun _ hk => hk.2) (.bool ((rd_T86 l0 x12_1).f6))) (fun _ hk => trivial)⟩, ⟨by (with_reducible repeat (first | refine blk_drewN ?_ _ | refine blk_drew ?_ | refine blk_alloc ?_ _)); refine blk_put (cs := #[.string ((rd_T86 l0 x12_1).f0), .int .i64 ((rd_T86 l0 x12_1).f1), .int .i64 ((rd_T86 l0 x12_1).f2), .int .i64 ((rd_T86 l0 x12_1).f3), .bool ((rd_T86 l0 x12_1).f4), .bool ((rd_T86 l0 x12_1).f5), .bool false]) ?_ 6 _ rfl; (with_reducible repeat (first | refine blk_drewN ?_ _ | refine blk_drew ?_ | refine blk_alloc ?_ _)); refine blk_put (cs := #[.string ((rd_T86 l0 x12_1).f0), .int .i64 ((rd_T86 l0 x12_1).f1), .int .i64 ((rd_T86 l0 x12_1).f2), .int .i64 ((rd_T86 l0 x12_1).f3), .bool ((rd_T86 l0 x12_1).f4), .bool false, .bool false]) ?_ 5 _ rfl; (with_reducible repeat (first | refine blk_drewN ?_ _ | refine blk_drew ?_ | refine blk_alloc ?_ _)); refine blk_put (cs := #[.string ((rd_T86 l0 x12_1).f0), .int .i64 ((rd_T86 l0 x12_1).f1), .int .i64 ((rd_T86 l0 x12_1).f2), .int .i64 ((rd_T86 l0 x12_1).f3), .bool false, .bool false, .bool false]) ?_ 4 _ rfl; (with_reducible repeat (first | refine blk_drewN ?_ _ | refine blk_drew ?_ | refine blk_alloc ?_ _)); refine blk_put (cs := #[.string ((rd_T86 l0 x12_1).f0), .int .i64 ((rd_T86 l0 x12_1).f1), .int .i64 ((rd_T86 l0 x12_1).f2), .int .i64 0, .bool false, .bool false, .bool false]) ?_ 3 _ rfl; (with_reducible repeat (first | refine blk_drewN ?_ _ | refine blk_drew ?_ | refine blk_alloc ?_ _)); refine blk_put (cs := #[.string ((rd_T86 l0 x12_1).f0), .int .i64 ((rd_T86 l0 x12_1).f1), .int .i64 0, .int .i64 0, .bool false, .bool false, .bool false]) ?_ 2 _ rfl; (with_reducible repeat (first | refine blk_drewN ?_ _ | refine blk_drew ?_ | refine blk_alloc ?_ _)); refine blk_put (cs := #[.string ((rd_T86 l0 x12_1).f0), .int .i64 0, .int .i64 0, .int .i64 0, .bool false, .bool false, .bool false]) ?_ 1 _ rfl; (with_reducible repeat (first | refine blk_drewN ?_ _ | refine blk_drew ?_ | refine blk_alloc ?_ _)); refine blk_put (cs := #[.string (⟨#[]⟩ : ByteArray), .int .i64 0, .int .i64 0, .int .i64 0, .bool false, .bool false, .bool false]) ?_ 0 _ rfl; (with_reducible repeat (first | refine blk_drewN ?_ _ | refine blk_drew ?_ | refine blk_alloc ?_ _)); exact BK102.out⟩, ⟨by repeat (first | (with_reducible first | exact HB.out | apply below_alloc | apply pw_below_drewN | apply below_drew1 | refine below_set ?_ GE102.out) | exact HB.out)⟩⟩
       case round =>
        clear H'
        try clear p1
        try clear q1
        try clear hx1
        try clear c2
        try clear c2b0
        try clear c2b1
        try clear p2
        try clear c3
        try clear c3b0
        try clear c4
        try clear c4b0
        try clear c5
        try clear c5b0
        try clear hcz7_0
        try clear hcz7_1
        try clear hcz7_2
        try clear hcz7_3
        try clear hcz7_4
        try clear hcz7_5
        try clear hcz7_6
        try clear hfz7_0
        try clear hfz7_1
        try clear hfz7_2
        try clear hfz7_3
        try clear hfz7_4
        try clear hfz7_5
        try clear hfz7_6
        try clear hx101_0
        try clear hx101_1
        try clear hx101_2
        try clear hx101_3
        try clear hx101_4
        try clear hx101_5
        try clear hx101_6
        try clear p101
        try clear p2
        try clear q101
        obtain ⟨x3_2, HA, HK2, HO_3, BK102, HB⟩ := hrel
        have cbx_ := box_cell_ hbx_.out HB.out
        cases gk with
        | zero => exact absurd HA.out (by simp [tree_Formed.l1])
        | succ k2 =>
         have H := HA.out
         clear HA
         simp only [tree_Formed.l1] at H
         have HC8 := Aside0.mk H
         clear H
         go_upto_region 7 with (fail)
         repeat (go_quiet (fail); go_upto_region 7 with (fail))
         go_cut [30] (fun v30 wc => ∃ (kq : Nat) (x30_7 : Bool), v30 = .bool x30_7 ∧ Aside0 (tree_Formed.j2 kq l0 x3_2 x12_1 l0 (l0.length : Int) x12_1 x30_7 ((rd_T86 l0 x12_1).f0) ((rd_T86 l0 x12_1).f1) ((rd_T86 l0 x12_1).f2) ((rd_T86 l0 x12_1).f3) ((rd_T86 l0 x12_1).f4) ((rd_T86 l0 x12_1).f5) ((rd_T86 l0 x12_1).f6) = some r) ∧ Aside0 (kq ≤ k2) ∧ Aside0 (Kd.R (Kd.int .i64) 3 wc W1_.heap.size (fun _ => True) u3 x3_2) ∧ Aside0 (wc.heap[gb102]? = some (.cells #[.string ((rd_T86 l0 x12_1).f0), .int .i64 ((rd_T86 l0 x12_1).f1), .int .i64 ((rd_T86 l0 x12_1).f2), .int .i64 ((rd_T86 l0 x12_1).f3), .bool ((rd_T86 l0 x12_1).f4), .bool ((rd_T86 l0 x12_1).f5), .bool ((rd_T86 l0 x12_1).f6)] 86 (0, 0))) ∧ Aside0 (Below W1_.heap.size W1_ wc))
         case first =>
          have H := HC8.out
          clear HC8
          by_cases c9 : (x3_2.length : Int) > 0
          ·rw [if_pos c9] at H
           have c9b0 : decide (0 < (x3_2.length : Int)) = true := decide_eq_true c9
           have c9b1 : decide (0 < x3_2.length) = true := decide_eq_true (by omega)
           clear c9
           (first | rw [c9b0] | (simp only [i64_w, i32_w]; rw [c9b0]) | skip)
           obtain ⟨ji10, hji10⟩ : ∃ j_ : Int, (wrap64 ((x3_2.length : Int) - 1)) = j_ := ⟨_, rfl⟩
           replace H : (if 0 ≤ (ji10) then (if (ji10) < (x3_2.length : Int) then (tree_Formed.j2 k2 l0 x3_2 x12_1 l0 (l0.length : Int) x12_1 ((rd x3_2 (ji10)) != ((rd_T86 l0 x12_1).f1)) ((rd_T86 l0 x12_1).f0) ((rd_T86 l0 x12_1).f1) ((rd_T86 l0 x12_1).f2) ((rd_T86 l0 x12_1).f3) ((rd_T86 l0 x12_1).f4) ((rd_T86 l0 x12_1).f5) ((rd_T86 l0 x12_1).f6)) else (none)) else (none)) = some r := by first | (rw [hji10] at H; exact H) | (simp only [hji10] at H ⊢; exact H)
           have hji10w : (IntKind.i64.wrap ((x3_2.length : Int) - 1)) = ji10 := (i64_w _).trans hji10
           by_cases c11 : 0 ≤ (ji10)
           ·rw [if_pos c11] at H
            have c11b0 : decide (0 ≤ (ji10)) = true := decide_eq_true c11
            clear c11
            by_cases c12 : (ji10) < (x3_2.length : Int)
            ·rw [if_pos c12] at H
             have c12b0 : decide ((ji10) < (x3_2.length : Int)) = true := decide_eq_true c12
             clear c12
             have H' := Aside0.mk H
             clear H
             obtain ⟨Ao13, co13, eo13⟩ := Kd.R_slice HO_3.out
             subst eo13
             have p103 : 0 ≤ ((ji10) : Int) := of_decide_eq_true kz2_4
             have q103 : (ji10) < (x3_2.length : Int) := of_decide_eq_true kz2_4
             obtain ⟨ad103, e103, hx103_0⟩ := Kd.at_int (Kd.R_reads' HO_3.out).2.2 (ji10) p103 q103
             cases e103
             replace p103 := eq_true p103
             replace q103 := eq_true q103
             have hcz14_0 : wr.cell? ⟨gb102, 0, none⟩ = some (.string ((rd_T86 l0 x12_1).f0)) := (blk_cell BK102.out 0).trans rfl
             have hcz14_1 : wr.cell? ⟨gb102, 1, none⟩ = some (.int .i64 ((rd_T86 l0 x12_1).f1)) := (blk_cell BK102.out 1).trans rfl
             have hcz14_2 : wr.cell? ⟨gb102, 2, none⟩ = some (.int .i64 ((rd_T86 l0 x12_1).f2)) := (blk_cell BK102.out 2).trans rfl
             have hcz14_3 : wr.cell? ⟨gb102, 3, none⟩ = some (.int .i64 ((rd_T86 l0 x12_1).f3)) := (blk_cell BK102.out 3).trans rfl
             have hcz14_4 : wr.cell? ⟨gb102, 4, none⟩ = some (.bool ((rd_T86 l0 x12_1).f4)) := (blk_cell BK102.out 4).trans rfl
             have hcz14_5 : wr.cell? ⟨gb102, 5, none⟩ = some (.bool ((rd_T86 l0 x12_1).f5)) := (blk_cell BK102.out 5).trans rfl
             have hcz14_6 : wr.cell? ⟨gb102, 6, none⟩ = some (.bool ((rd_T86 l0 x12_1).f6)) := (blk_cell BK102.out 6).trans rfl
             have hfz14_0 := blk_frozen BK102.out 0
             have hfz14_1 := blk_frozen BK102.out 1
             have hfz14_2 := blk_frozen BK102.out 2
             have hfz14_3 := blk_frozen BK102.out 3
             have hfz14_4 := blk_frozen BK102.out 4
             have hfz14_5 := blk_frozen BK102.out 5
             have hfz14_6 := blk_frozen BK102.out 6
             go_wp2
             repeat (go_quiet (fail); try go_wp2)
             go_meet
             case rel => exact ⟨_, (((rd x3_2 (ji10)) != ((rd_T86 l0 x12_1).f1))), (by first | rfl | (simp; done) | (simp only [← hji10] <;> (first | rfl | simp)) | (simp [*]; done)), H', ⟨by have := HK1.out; have := HK2.out; first | omega | exact Nat.le_refl _⟩, ⟨by (with_reducible repeat (first | apply Kd.R_alloc | apply Kd.R_drewN | apply Kd.R_drew)); exact HO_3.out⟩, ⟨by (with_reducible repeat (first | refine blk_drewN ?_ _ | refine blk_drew ?_ | refine blk_alloc ?_ _)); exact BK102.out⟩, ⟨by repeat (first | (with_reducible first | exact HB.out | apply below_alloc | apply pw_below_drewN | apply below_drew1 | refine below_set ?_ GE102.out) | exact HB.out)⟩⟩
            ·rw [if_neg c12] at H
             exact absurd H (by simp)
           ·rw [if_neg c11] at H
            exact absurd H (by simp)
          ·rw [if_neg c9] at H
           have c9b0 : decide (0 < (x3_2.length : Int)) = false := decide_eq_false c9
           have c9b1 : decide (0 < x3_2.length) = false := decide_eq_false (by omega)
           clear c9
           (first | rw [c9b0] | (simp only [i64_w, i32_w]; rw [c9b0]) | skip)
           have H' := Aside0.mk H
           clear H
           obtain ⟨Ao15, co15, eo15⟩ := Kd.R_slice HO_3.out
           subst eo15
           go_wp2
           repeat (go_quiet (fail); try go_wp2)
           go_meet
           case rel => exact ⟨_, (false), (by first | rfl | (simp; done) | (simp [*]; done)), H', ⟨by have := HK1.out; have := HK2.out; first | omega | exact Nat.le_refl _⟩, ⟨by (with_reducible repeat (first | apply Kd.R_alloc | apply Kd.R_drewN | apply Kd.R_drew)); exact HO_3.out⟩, ⟨by (with_reducible repeat (first | refine blk_drewN ?_ _ | refine blk_drew ?_ | refine blk_alloc ?_ _)); exact BK102.out⟩, ⟨by repeat (first | (with_reducible first | exact HB.out | apply below_alloc | apply pw_below_drewN | apply below_drew1 | refine below_set ?_ GE102.out) | exact HB.out)⟩⟩
         case rest =>
          clear HC8
          try clear c1
          try clear p1
          try clear q1
          try clear hx1
          try clear c2
          try clear c2b0
          try clear c2b1
          try clear p2
          try clear c3
          try clear c3b0
          try clear c4
          try clear c4b0
          try clear c5
          try clear c5b0
          try clear p6
          try clear c8
          try clear c9
          try clear c9b0
          try clear c9b1
          try clear p10
          try clear q10
          try clear hx10
          try clear c11
          try clear c11b0
          try clear c12
          try clear c12b0
          try clear hcz14_0
          try clear hcz14_1
          try clear hcz14_2
          try clear hcz14_3
          try clear hcz14_4
          try clear hcz14_5
          try clear hcz14_6
          try clear hcz7_0
          try clear hcz7_1
          try clear hcz7_2
          try clear hcz7_3
          try clear hcz7_4
          try clear hcz7_5
          try clear hcz7_6
          try clear hfz14_0
          try clear hfz14_1
          try clear hfz14_2
          try clear hfz14_3
          try clear hfz14_4
          try clear hfz14_5
          try clear hfz14_6
          try clear hfz7_0
          try clear hfz7_1
          try clear hfz7_2
          try clear hfz7_3
          try clear hfz7_4
          try clear hfz7_5
          try clear hfz7_6
          try clear hx101_0
          try clear hx101_1
          try clear hx101_2
          try clear hx101_3
          try clear hx101_4
          try clear hx101_5
          try clear hx101_6
          try clear hx103_0
          try clear p1
          try clear p101
          try clear p103
          try clear p2
          try clear q1
          try clear q101
          try clear q103
          obtain ⟨kq, x30_7, rfl, HA, HJ7, HO_3, BK102, HB⟩ := hcut
          have cbx_ := box_cell_ hbx_.out HB.out
          cases kq with
          | zero => exact absurd HA.out (by simp [tree_Formed.j2])
          | succ kj7 =>
           have H := HA.out
           clear HA
           simp only [tree_Formed.j2] at H
           by_cases c16 : x30_7 = true
           ·subst c16
            have H1 : (if 0 ≤ (wrap64 ((x3_2.length : Int) - 1)) then (if (wrap64 ((x3_2.length : Int) - 1)) < (x3_2.length : Int) then (if 0 ≤ (rd x3_2 (wrap64 ((x3_2.length : Int) - 1))) then (if (rd x3_2 (wrap64 ((x3_2.length : Int) - 1))) < (l0.length : Int) then (if ((rd_T86 l0 (rd x3_2 (wrap64 ((x3_2.length : Int) - 1)))).f3) = x12_1 then (if (wrap64 ((x3_2.length : Int) - 1)) ≤ (x3_2.length : Int) then (tree_Formed.l1 kj7 l0 (x3_2.take ((wrap64 ((x3_2.length : Int) - 1)) : Int).toNat) x12_1 l0 (l0.length : Int) x12_1 ((rd_T86 l0 x12_1).f0) ((rd_T86 l0 x12_1).f1) ((rd_T86 l0 x12_1).f2) ((rd_T86 l0 x12_1).f3) ((rd_T86 l0 x12_1).f4) ((rd_T86 l0 x12_1).f5) ((rd_T86 l0 x12_1).f6)) else (none)) else (some false)) else (none)) else (none)) else (none)) else (none)) = some r := by rw [if_pos rfl] at H; exact H
            clear H
            have H := H1
            clear H1
            obtain ⟨ji17, hji17⟩ : ∃ j_ : Int, (wrap64 ((x3_2.length : Int) - 1)) = j_ := ⟨_, rfl⟩
            replace H : (if 0 ≤ (ji17) then (if (ji17) < (x3_2.length : Int) then (if 0 ≤ (rd x3_2 (ji17)) then (if (rd x3_2 (ji17)) < (l0.length : Int) then (if ((rd_T86 l0 (rd x3_2 (ji17))).f3) = x12_1 then (if (ji17) ≤ (x3_2.length : Int) then (tree_Formed.l1 kj7 l0 (x3_2.take ((ji17) : Int).toNat) x12_1 l0 (l0.length : Int) x12_1 ((rd_T86 l0 x12_1).f0) ((rd_T86 l0 x12_1).f1) ((rd_T86 l0 x12_1).f2) ((rd_T86 l0 x12_1).f3) ((rd_T86 l0 x12_1).f4) ((rd_T86 l0 x12_1).f5) ((rd_T86 l0 x12_1).f6)) else (none)) else (some false)) else (none)) else (none)) else (none)) else (none)) = some r := by first | (rw [hji17] at H; exact H) | (simp only [hji17] at H ⊢; exact H)
            have hji17w : (IntKind.i64.wrap ((x3_2.length : Int) - 1)) = ji17 := (i64_w _).trans hji17
            by_cases c18 : 0 ≤ (ji17)
            ·rw [if_pos c18] at H
             have c18b0 : decide (0 ≤ (ji17)) = true := decide_eq_true c18
             clear c18
             by_cases c19 : (ji17) < (x3_2.length : Int)
             ·rw [if_pos c19] at H
              have c19b0 : decide ((ji17) < (x3_2.length : Int)) = true := decide_eq_true c19
              clear c19
              by_cases c20 : 0 ≤ (rd x3_2 (ji17))
              ·rw [if_pos c20] at H
               have c20b0 : decide (0 ≤ (rd x3_2 (ji17))) = true := decide_eq_true c20
               clear c20
               by_cases c21 : (rd x3_2 (ji17)) < (l0.length : Int)
               ·rw [if_pos c21] at H
                have c21b0 : decide ((rd x3_2 (ji17)) < (l0.length : Int)) = true := decide_eq_true c21
                clear c21
                by_cases c22 : ((rd_T86 l0 (rd x3_2 (ji17))).f3) = x12_1
                ·rw [if_pos c22] at H
                 have c22b0 : (((rd_T86 l0 (rd x3_2 (ji17))).f3) == x12_1) = true := beq_iff_eq.mpr c22
                 have c22b1 : (((rd_T86 l0 (rd x3_2 (ji17))).f3) != x12_1) = false := bne_eq_false_iff_eq.mpr c22
                 clear c22
                 by_cases c23 : (ji17) ≤ (x3_2.length : Int)
                 ·rw [if_pos c23] at H
                  have c23b0 := eq_true c23
                  have c23b1 : decide ((ji17) ≤ (x3_2.length : Int)) = true := decide_eq_true c23
                  clear c23
                  obtain ⟨y106, hy106⟩ : ∃ y_ : List Int, y_ = (x3_2.take ((ji17) : Int).toNat) := ⟨_, rfl⟩
                  replace H : (tree_Formed.l1 kj7 l0 y106 x12_1 l0 (l0.length : Int) x12_1 ((rd_T86 l0 x12_1).f0) ((rd_T86 l0 x12_1).f1) ((rd_T86 l0 x12_1).f2) ((rd_T86 l0 x12_1).f3) ((rd_T86 l0 x12_1).f4) ((rd_T86 l0 x12_1).f5) ((rd_T86 l0 x12_1).f6)) = some r := by first | (rw [hy106]; with_reducible exact H) | (have H2_ := (Option.bind_some _ _).symm.trans H; rw [hy106]; with_reducible exact H2_) | (have H2_ := (Option.bind_some _ _).symm.trans H; with_reducible exact H2_) | with_reducible exact H | (rw [hy106]; exact H) | exact H
                  have Ny106 := Aside0.mk hy106
                  clear hy106
                  have H' := Aside0.mk H
                  clear H
                  obtain ⟨Ao24, co24, eo24⟩ := Kd.R_slice HO_3.out
                  subst eo24
                  have p104 : 0 ≤ ((ji17) : Int) := of_decide_eq_true kz2_4
                  have q104 : (ji17) < (x3_2.length : Int) := of_decide_eq_true kz2_4
                  obtain ⟨ad104, e104, hx104_0⟩ := Kd.at_int (Kd.R_reads' HO_3.out).2.2 (ji17) p104 q104
                  cases e104
                  replace p104 := eq_true p104
                  replace q104 := eq_true q104
                  have p105 : 0 ≤ ((rd x3_2 (ji17)) : Int) := of_decide_eq_true kz2_4
                  have q105 : (rd x3_2 (ji17)) < (l0.length : Int) := of_decide_eq_true kz2_4
                  obtain ⟨ad105, e105, hx105_0, hx105_1, hx105_2, hx105_3, hx105_4, hx105_5, hx105_6⟩ := at_T86 HR0.out (rd x3_2 (ji17)) p105 q105
                  obtain rfl : ad101 = ad105 := (by injection e105)
                  replace hx105_0 := (HB.out.cell (World.block_lt_of_cell? W1_ _ hx105_0)).trans hx105_0
                  replace hx105_1 := (HB.out.cell (World.block_lt_of_cell? W1_ _ hx105_1)).trans hx105_1
                  replace hx105_2 := (HB.out.cell (World.block_lt_of_cell? W1_ _ hx105_2)).trans hx105_2
                  replace hx105_3 := (HB.out.cell (World.block_lt_of_cell? W1_ _ hx105_3)).trans hx105_3
                  replace hx105_4 := (HB.out.cell (World.block_lt_of_cell? W1_ _ hx105_4)).trans hx105_4
                  replace hx105_5 := (HB.out.cell (World.block_lt_of_cell? W1_ _ hx105_5)).trans hx105_5
                  replace hx105_6 := (HB.out.cell (World.block_lt_of_cell? W1_ _ hx105_6)).trans hx105_6
                  replace p105 := eq_true p105
                  replace q105 := eq_true q105
                  have q25 : ((ji17) : Int) ≤ ((x3_2.length : Int) : Int) := of_decide_eq_true kz2_4
                  obtain ⟨i025, hi025, _, hsz25, _⟩ := info_parts info3
                  have hcut25 := cut_to (P := Try.prog) 65 3 .i64 Try.underlying65 hi025 (some ad104) x3_2.length co24 (ji17) (of_decide_eq_true kz2_4) q25 (Kd.R_reads' HO_3.out).2.1
                  have hr25 := Kd.R_take (m := ((ji17) : Int).toNat) HO_3.out (by omega)
                  have hy25 : y106.length = ((ji17) : Int).toNat := (by rw [Ny106.out, List.length_take]; omega)
                  rw [← Ny106.out] at hr25
                  rw [← hy25] at hr25 hcut25
                  clear hy25 hi025 hsz25 HO_3
                  have HO108 := Aside0.mk hr25
                  clear hr25
                  replace q25 := eq_true q25
                  go_wp2
                  repeat (go_quiet (fail); try go_wp2)
                  go_roundg kj7
                  case measure => have := HK1.out; have := HK2.out; have := HJ7.out; omega
                  case rel => exact ⟨(y106), H', ⟨by have := HK1.out; have := HK2.out; have := HJ7.out; omega⟩, ⟨by (with_reducible repeat (first | apply Kd.R_alloc | apply Kd.R_drewN | apply Kd.R_drew)); exact HO108.out⟩, ⟨by (with_reducible repeat (first | refine blk_drewN ?_ _ | refine blk_drew ?_ | refine blk_alloc ?_ _)); exact BK102.out⟩, ⟨by repeat (first | (with_reducible first | exact HB.out | apply below_alloc | apply pw_below_drewN | apply below_drew1 | refine below_set ?_ GE102.out) | exact HB.out)⟩⟩
                 ·rw [if_neg c23] at H
                  exact absurd H (by simp)
                ·rw [if_neg c22] at H
                 have c22b0 : (((rd_T86 l0 (rd x3_2 (ji17))).f3) == x12_1) = false := beq_eq_false_iff_ne.mpr c22
                 have c22b1 : (((rd_T86 l0 (rd x3_2 (ji17))).f3) != x12_1) = true := bne_iff_ne.mpr c22
                 obtain rfl := Option.some.inj H
                 obtain ⟨Ao26, co26, eo26⟩ := Kd.R_slice HO_3.out
                 subst eo26
                 have p104 : 0 ≤ ((ji17) : Int) := of_decide_eq_true kz2_4
                 have q104 : (ji17) < (x3_2.length : Int) := of_decide_eq_true kz2_4
                 obtain ⟨ad104, e104, hx104_0⟩ := Kd.at_int (Kd.R_reads' HO_3.out).2.2 (ji17) p104 q104
                 cases e104
                 replace p104 := eq_true p104
                 replace q104 := eq_true q104
                 have p105 : 0 ≤ ((rd x3_2 (ji17)) : Int) := of_decide_eq_true kz2_4
                 have q105 : (rd x3_2 (ji17)) < (l0.length : Int) := of_decide_eq_true kz2_4
                 obtain ⟨ad105, e105, hx105_0, hx105_1, hx105_2, hx105_3, hx105_4, hx105_5, hx105_6⟩ := at_T86 HR0.out (rd x3_2 (ji17)) p105 q105
                 obtain rfl : ad101 = ad105 := (by injection e105)
                 replace hx105_0 := (HB.out.cell (World.block_lt_of_cell? W1_ _ hx105_0)).trans hx105_0
                 replace hx105_1 := (HB.out.cell (World.block_lt_of_cell? W1_ _ hx105_1)).trans hx105_1
                 replace hx105_2 := (HB.out.cell (World.block_lt_of_cell? W1_ _ hx105_2)).trans hx105_2
                 replace hx105_3 := (HB.out.cell (World.block_lt_of_cell? W1_ _ hx105_3)).trans hx105_3
                 replace hx105_4 := (HB.out.cell (World.block_lt_of_cell? W1_ _ hx105_4)).trans hx105_4
                 replace hx105_5 := (HB.out.cell (World.block_lt_of_cell? W1_ _ hx105_5)).trans hx105_5
                 replace hx105_6 := (HB.out.cell (World.block_lt_of_cell? W1_ _ hx105_6)).trans hx105_6
                 replace p105 := eq_true p105
                 replace q105 := eq_true q105
                 go_wp2
                 repeat (go_quiet (fail); try go_wp2)
                 go_ret
                 exact ⟨by first | rfl | (simp [errW_none, errW_some] <;> rfl) | (simp only [← hji17]; first | rfl | (simp [errW_none, errW_some] <;> rfl)) | (simp [*, errW_none, errW_some] <;> rfl), by repeat (first | (with_reducible first | exact HB.out | apply below_alloc | apply pw_below_drewN | apply below_drew1 | refine below_set ?_ GE102.out) | exact HB.out)⟩
               ·rw [if_neg c21] at H
                exact absurd H (by simp)
              ·rw [if_neg c20] at H
               exact absurd H (by simp)
             ·rw [if_neg c19] at H
              exact absurd H (by simp)
            ·rw [if_neg c18] at H
             exact absurd H (by simp)
           ·replace c16 := Bool.eq_false_iff.mpr c16
            subst c16
            have H1 : (if (x3_2.length : Int) = 0 then (if ((rd_T86 l0 x12_1).f1) = (-1) then (if ((rd_T86 l0 x12_1).f2) = (x3_2.length : Int) then (if (((rd_T86 l0 x12_1).f6) != (((rd_T86 l0 x12_1).f3) == (wrap64 (x12_1 + 1)))) = true then (some false) else (if x3_2.length < 17592186044416 then (tree_Formed.l0 kj7 l0 (x3_2 ++ [x12_1]) l0 (l0.length : Int) (wrap64 (x12_1 + 1))) else (none))) else (some false)) else (some false)) else (if ((rd_T86 l0 x12_1).f2) = (x3_2.length : Int) then (if (((rd_T86 l0 x12_1).f6) != (((rd_T86 l0 x12_1).f3) == (wrap64 (x12_1 + 1)))) = true then (some false) else (if x3_2.length < 17592186044416 then (tree_Formed.l0 kj7 l0 (x3_2 ++ [x12_1]) l0 (l0.length : Int) (wrap64 (x12_1 + 1))) else (none))) else (some false))) = some r := by rw [if_neg (show ¬ (false = true) by decide)] at H; exact H
            clear H
            have H := H1
            clear H1
            by_cases c27 : (x3_2.length : Int) = 0
            ·rw [if_pos c27] at H
             have c27b0 : ((x3_2.length : Int) == 0) = true := beq_iff_eq.mpr c27
             have c27b1 : ((x3_2.length : Int) != 0) = false := bne_eq_false_iff_eq.mpr c27
             clear c27
             by_cases c28 : ((rd_T86 l0 x12_1).f1) = (-1)
             ·rw [if_pos c28] at H
              have c28b0 : (((rd_T86 l0 x12_1).f1) == (-1)) = true := beq_iff_eq.mpr c28
              have c28b1 : (((rd_T86 l0 x12_1).f1) != (-1)) = false := bne_eq_false_iff_eq.mpr c28
              clear c28
              by_cases c29 : ((rd_T86 l0 x12_1).f2) = (x3_2.length : Int)
              ·rw [if_pos c29] at H
               have c29b0 : (((rd_T86 l0 x12_1).f2) == (x3_2.length : Int)) = true := beq_iff_eq.mpr c29
               have c29b1 : (((rd_T86 l0 x12_1).f2) != (x3_2.length : Int)) = false := bne_eq_false_iff_eq.mpr c29
               clear c29
               by_cases c30 : (((rd_T86 l0 x12_1).f6) != (((rd_T86 l0 x12_1).f3) == (wrap64 (x12_1 + 1)))) = true
               ·rw [if_pos c30] at H
                have c30b0 : (((rd_T86 l0 x12_1).f6) != (((rd_T86 l0 x12_1).f3) == (wrap64 (x12_1 + 1)))) = true := c30
                (try (have c30b1 : decide (((rd_T86 l0 x12_1).f6) = (((rd_T86 l0 x12_1).f3) == (wrap64 (x12_1 + 1)))) = false := by simpa using c30))
                (try (have c30b2 : (((rd_T86 l0 x12_1).f6) == (((rd_T86 l0 x12_1).f3) == (wrap64 (x12_1 + 1)))) = false := by simpa using c30))
                (try (have c30b3 : ¬ (((rd_T86 l0 x12_1).f6) = (((rd_T86 l0 x12_1).f3) == (wrap64 (x12_1 + 1)))) := by simpa using c30))
                clear c30
                obtain rfl := Option.some.inj H
                obtain ⟨Ao31, co31, eo31⟩ := Kd.R_slice HO_3.out
                subst eo31
                have hcz32_0 : wc.cell? ⟨gb102, 0, none⟩ = some (.string ((rd_T86 l0 x12_1).f0)) := (blk_cell BK102.out 0).trans rfl
                have hcz32_1 : wc.cell? ⟨gb102, 1, none⟩ = some (.int .i64 ((rd_T86 l0 x12_1).f1)) := (blk_cell BK102.out 1).trans rfl
                have hcz32_2 : wc.cell? ⟨gb102, 2, none⟩ = some (.int .i64 ((rd_T86 l0 x12_1).f2)) := (blk_cell BK102.out 2).trans rfl
                have hcz32_3 : wc.cell? ⟨gb102, 3, none⟩ = some (.int .i64 ((rd_T86 l0 x12_1).f3)) := (blk_cell BK102.out 3).trans rfl
                have hcz32_4 : wc.cell? ⟨gb102, 4, none⟩ = some (.bool ((rd_T86 l0 x12_1).f4)) := (blk_cell BK102.out 4).trans rfl
                have hcz32_5 : wc.cell? ⟨gb102, 5, none⟩ = some (.bool ((rd_T86 l0 x12_1).f5)) := (blk_cell BK102.out 5).trans rfl
                have hcz32_6 : wc.cell? ⟨gb102, 6, none⟩ = some (.bool ((rd_T86 l0 x12_1).f6)) := (blk_cell BK102.out 6).trans rfl
                have hfz32_0 := blk_frozen BK102.out 0
                have hfz32_1 := blk_frozen BK102.out 1
                have hfz32_2 := blk_frozen BK102.out 2
                have hfz32_3 := blk_frozen BK102.out 3
                have hfz32_4 := blk_frozen BK102.out 4
                have hfz32_5 := blk_frozen BK102.out 5
                have hfz32_6 := blk_frozen BK102.out 6
                go_wp2
                repeat (go_quiet (fail); try go_wp2)
                go_ret
                exact ⟨by first | rfl | (simp [errW_none, errW_some] <;> rfl) | (simp [*, errW_none, errW_some] <;> rfl), by repeat (first | (with_reducible first | exact HB.out | apply below_alloc | apply pw_below_drewN | apply below_drew1 | refine below_set ?_ GE102.out) | exact HB.out)⟩
               ·rw [if_neg c30] at H
                have c30b0 : (((rd_T86 l0 x12_1).f6) != (((rd_T86 l0 x12_1).f3) == (wrap64 (x12_1 + 1)))) = false := by simpa using c30
                (try (have c30b1 : decide (((rd_T86 l0 x12_1).f6) = (((rd_T86 l0 x12_1).f3) == (wrap64 (x12_1 + 1)))) = true := by simpa using c30))
                (try (have c30b2 : (((rd_T86 l0 x12_1).f6) == (((rd_T86 l0 x12_1).f3) == (wrap64 (x12_1 + 1)))) = true := by simpa using c30))
                clear c30
                by_cases c33 : x3_2.length < 17592186044416
                ·rw [if_pos c33] at H
                 have LMc33 := Aside0.mk c33
                 clear c33
                 obtain ⟨y109, hy109⟩ : ∃ y_ : List Int, y_ = (x3_2 ++ [x12_1]) := ⟨_, rfl⟩
                 replace H : (tree_Formed.l0 kj7 l0 y109 l0 (l0.length : Int) (wrap64 (x12_1 + 1))) = some r := by first | (rw [hy109]; with_reducible exact H) | (have H2_ := (Option.bind_some _ _).symm.trans H; rw [hy109]; with_reducible exact H2_) | (have H2_ := (Option.bind_some _ _).symm.trans H; with_reducible exact H2_) | with_reducible exact H | (rw [hy109]; exact H) | exact H
                 have Ny109 := Aside0.mk hy109
                 clear hy109
                 have H' := Aside0.mk H
                 clear H
                 obtain ⟨Ao34, co34, eo34⟩ := Kd.R_slice HO_3.out
                 subst eo34
                 have hcz35_0 : wc.cell? ⟨gb102, 0, none⟩ = some (.string ((rd_T86 l0 x12_1).f0)) := (blk_cell BK102.out 0).trans rfl
                 have hcz35_1 : wc.cell? ⟨gb102, 1, none⟩ = some (.int .i64 ((rd_T86 l0 x12_1).f1)) := (blk_cell BK102.out 1).trans rfl
                 have hcz35_2 : wc.cell? ⟨gb102, 2, none⟩ = some (.int .i64 ((rd_T86 l0 x12_1).f2)) := (blk_cell BK102.out 2).trans rfl
                 have hcz35_3 : wc.cell? ⟨gb102, 3, none⟩ = some (.int .i64 ((rd_T86 l0 x12_1).f3)) := (blk_cell BK102.out 3).trans rfl
                 have hcz35_4 : wc.cell? ⟨gb102, 4, none⟩ = some (.bool ((rd_T86 l0 x12_1).f4)) := (blk_cell BK102.out 4).trans rfl
                 have hcz35_5 : wc.cell? ⟨gb102, 5, none⟩ = some (.bool ((rd_T86 l0 x12_1).f5)) := (blk_cell BK102.out 5).trans rfl
                 have hcz35_6 : wc.cell? ⟨gb102, 6, none⟩ = some (.bool ((rd_T86 l0 x12_1).f6)) := (blk_cell BK102.out 6).trans rfl
                 have hfz35_0 := blk_frozen BK102.out 0
                 have hfz35_1 := blk_frozen BK102.out 1
                 have hfz35_2 := blk_frozen BK102.out 2
                 have hfz35_3 := blk_frozen BK102.out 3
                 have hfz35_4 := blk_frozen BK102.out 4
                 have hfz35_5 := blk_frozen BK102.out 5
                 have hfz35_6 := blk_frozen BK102.out 6
                 go_wp2_with (first | ((with_reducible refine gate_builtin (b := .append) (xs := #[.tmp 74, .tmp 76]) rfl ?_); (try (refine gate_guard (by rfl) ?_; dsimp only)); at_builtin; refine Kd.R_append (Kd.int .i64) (w0 := W1_) W1_.heap.size rfl (.tmp 74) (.tmp 76) 65 3 (.int .i64 0) 8 rfl Try.underlying65 info3 rfl (by decide) (by omega) (.slice Ao34 x3_2.length co34) x3_2 x12_1 [.int .i64 x12_1] (fun _ => True) (fun _ => False) rfl rfl ?aP (fun _ hk => hk.elim) ?aF ?aO ?aB ?aS ?aL ?_; (case aP => exact rfl); (case aB => exact kz2_1); (case aF => exact (fun _ _ => trivial)); (case aO => exact kz2_3); (case aS => exact (below_size kz2_1)); (case aL => have := LMc33.out; omega); intro v110 w36 ho hb hg hat; rw [← Ny109.out] at ho; have n0_ := Aside0.mk (blk_grown (g := gb102) (o := .cells #[.string ((rd_T86 l0 x12_1).f0), .int .i64 ((rd_T86 l0 x12_1).f1), .int .i64 ((rd_T86 l0 x12_1).f2), .int .i64 ((rd_T86 l0 x12_1).f3), .bool ((rd_T86 l0 x12_1).f4), .bool ((rd_T86 l0 x12_1).f5), .bool ((rd_T86 l0 x12_1).f6)] 86 (0, 0)) kz2_5 hg (Kd.R_ne HO_3.out BK102.out (by decide))); have n1_ := Aside0.mk (hb); have n2_ := Aside0.mk (ho); clear BK102; clear HB; clear HO_3; have BK102 := n0_; have HB := n1_; have HO111 := n2_; clear n0_ n1_ n2_; clear ho hb hg hat))
                 repeat (go_quiet (first | ((with_reducible refine gate_builtin (b := .append) (xs := #[.tmp 74, .tmp 76]) rfl ?_); (try (refine gate_guard (by rfl) ?_; dsimp only)); at_builtin; refine Kd.R_append (Kd.int .i64) (w0 := W1_) W1_.heap.size rfl (.tmp 74) (.tmp 76) 65 3 (.int .i64 0) 8 rfl Try.underlying65 info3 rfl (by decide) (by omega) (.slice Ao34 x3_2.length co34) x3_2 x12_1 [.int .i64 x12_1] (fun _ => True) (fun _ => False) rfl rfl ?aP (fun _ hk => hk.elim) ?aF ?aO ?aB ?aS ?aL ?_; (case aP => exact rfl); (case aB => exact kz2_1); (case aF => exact (fun _ _ => trivial)); (case aO => exact kz2_3); (case aS => exact (below_size kz2_1)); (case aL => have := LMc33.out; omega); intro v110 w36 ho hb hg hat; rw [← Ny109.out] at ho; have n0_ := Aside0.mk (blk_grown (g := gb102) (o := .cells #[.string ((rd_T86 l0 x12_1).f0), .int .i64 ((rd_T86 l0 x12_1).f1), .int .i64 ((rd_T86 l0 x12_1).f2), .int .i64 ((rd_T86 l0 x12_1).f3), .bool ((rd_T86 l0 x12_1).f4), .bool ((rd_T86 l0 x12_1).f5), .bool ((rd_T86 l0 x12_1).f6)] 86 (0, 0)) kz2_5 hg (Kd.R_ne HO_3.out BK102.out (by decide))); have n1_ := Aside0.mk (hb); have n2_ := Aside0.mk (ho); clear BK102; clear HB; clear HO_3; have BK102 := n0_; have HB := n1_; have HO111 := n2_; clear n0_ n1_ n2_; clear ho hb hg hat)); try go_wp2_with (first | ((with_reducible refine gate_builtin (b := .append) (xs := #[.tmp 74, .tmp 76]) rfl ?_); (try (refine gate_guard (by rfl) ?_; dsimp only)); at_builtin; refine Kd.R_append (Kd.int .i64) (w0 := W1_) W1_.heap.size rfl (.tmp 74) (.tmp 76) 65 3 (.int .i64 0) 8 rfl Try.underlying65 info3 rfl (by decide) (by omega) (.slice Ao34 x3_2.length co34) x3_2 x12_1 [.int .i64 x12_1] (fun _ => True) (fun _ => False) rfl rfl ?aP (fun _ hk => hk.elim) ?aF ?aO ?aB ?aS ?aL ?_; (case aP => exact rfl); (case aB => exact kz2_1); (case aF => exact (fun _ _ => trivial)); (case aO => exact kz2_3); (case aS => exact (below_size kz2_1)); (case aL => have := LMc33.out; omega); intro v110 w36 ho hb hg hat; rw [← Ny109.out] at ho; have n0_ := Aside0.mk (blk_grown (g := gb102) (o := .cells #[.string ((rd_T86 l0 x12_1).f0), .int .i64 ((rd_T86 l0 x12_1).f1), .int .i64 ((rd_T86 l0 x12_1).f2), .int .i64 ((rd_T86 l0 x12_1).f3), .bool ((rd_T86 l0 x12_1).f4), .bool ((rd_T86 l0 x12_1).f5), .bool ((rd_T86 l0 x12_1).f6)] 86 (0, 0)) kz2_5 hg (Kd.R_ne HO_3.out BK102.out (by decide))); have n1_ := Aside0.mk (hb); have n2_ := Aside0.mk (ho); clear BK102; clear HB; clear HO_3; have BK102 := n0_; have HB := n1_; have HO111 := n2_; clear n0_ n1_ n2_; clear ho hb hg hat)))
                 go_roundg kj7
                 case measure => have := HK1.out; have := HK2.out; have := HJ7.out; omega
                 case rel => exact ⟨(y109), (wrap64 (x12_1 + 1)), (by first | rfl | (simp; done) | (simp [*]; done)), H', ⟨by have := HK1.out; have := HK2.out; have := HJ7.out; omega⟩, ⟨by (with_reducible repeat (first | apply Kd.R_alloc | apply Kd.R_drewN | apply Kd.R_drew)); exact HO111.out⟩, ⟨by repeat (first | (with_reducible first | exact HB.out | apply below_alloc | apply pw_below_drewN | apply below_drew1 | refine below_set ?_ GE102.out) | exact HB.out)⟩⟩
                ·rw [if_neg c33] at H
                 exact absurd H (by simp)
              ·rw [if_neg c29] at H
               have c29b0 : (((rd_T86 l0 x12_1).f2) == (x3_2.length : Int)) = false := beq_eq_false_iff_ne.mpr c29
               have c29b1 : (((rd_T86 l0 x12_1).f2) != (x3_2.length : Int)) = true := bne_iff_ne.mpr c29
               obtain rfl := Option.some.inj H
               obtain ⟨Ao37, co37, eo37⟩ := Kd.R_slice HO_3.out
               subst eo37
               have hcz38_0 : wc.cell? ⟨gb102, 0, none⟩ = some (.string ((rd_T86 l0 x12_1).f0)) := (blk_cell BK102.out 0).trans rfl
               have hcz38_1 : wc.cell? ⟨gb102, 1, none⟩ = some (.int .i64 ((rd_T86 l0 x12_1).f1)) := (blk_cell BK102.out 1).trans rfl
               have hcz38_2 : wc.cell? ⟨gb102, 2, none⟩ = some (.int .i64 ((rd_T86 l0 x12_1).f2)) := (blk_cell BK102.out 2).trans rfl
               have hcz38_3 : wc.cell? ⟨gb102, 3, none⟩ = some (.int .i64 ((rd_T86 l0 x12_1).f3)) := (blk_cell BK102.out 3).trans rfl
               have hcz38_4 : wc.cell? ⟨gb102, 4, none⟩ = some (.bool ((rd_T86 l0 x12_1).f4)) := (blk_cell BK102.out 4).trans rfl
               have hcz38_5 : wc.cell? ⟨gb102, 5, none⟩ = some (.bool ((rd_T86 l0 x12_1).f5)) := (blk_cell BK102.out 5).trans rfl
               have hcz38_6 : wc.cell? ⟨gb102, 6, none⟩ = some (.bool ((rd_T86 l0 x12_1).f6)) := (blk_cell BK102.out 6).trans rfl
               have hfz38_0 := blk_frozen BK102.out 0
               have hfz38_1 := blk_frozen BK102.out 1
               have hfz38_2 := blk_frozen BK102.out 2
               have hfz38_3 := blk_frozen BK102.out 3
               have hfz38_4 := blk_frozen BK102.out 4
               have hfz38_5 := blk_frozen BK102.out 5
               have hfz38_6 := blk_frozen BK102.out 6
               go_wp2
               repeat (go_quiet (fail); try go_wp2)
               go_ret
               exact ⟨by first | rfl | (simp [errW_none, errW_some] <;> rfl) | (simp [*, errW_none, errW_some] <;> rfl), by repeat (first | (with_reducible first | exact HB.out | apply below_alloc | apply pw_below_drewN | apply below_drew1 | refine below_set ?_ GE102.out) | exact HB.out)⟩
             ·rw [if_neg c28] at H
              have c28b0 : (((rd_T86 l0 x12_1).f1) == (-1)) = false := beq_eq_false_iff_ne.mpr c28
              have c28b1 : (((rd_T86 l0 x12_1).f1) != (-1)) = true := bne_iff_ne.mpr c28
              obtain rfl := Option.some.inj H
              obtain ⟨Ao39, co39, eo39⟩ := Kd.R_slice HO_3.out
              subst eo39
              have hcz40_0 : wc.cell? ⟨gb102, 0, none⟩ = some (.string ((rd_T86 l0 x12_1).f0)) := (blk_cell BK102.out 0).trans rfl
              have hcz40_1 : wc.cell? ⟨gb102, 1, none⟩ = some (.int .i64 ((rd_T86 l0 x12_1).f1)) := (blk_cell BK102.out 1).trans rfl
              have hcz40_2 : wc.cell? ⟨gb102, 2, none⟩ = some (.int .i64 ((rd_T86 l0 x12_1).f2)) := (blk_cell BK102.out 2).trans rfl
              have hcz40_3 : wc.cell? ⟨gb102, 3, none⟩ = some (.int .i64 ((rd_T86 l0 x12_1).f3)) := (blk_cell BK102.out 3).trans rfl
              have hcz40_4 : wc.cell? ⟨gb102, 4, none⟩ = some (.bool ((rd_T86 l0 x12_1).f4)) := (blk_cell BK102.out 4).trans rfl
              have hcz40_5 : wc.cell? ⟨gb102, 5, none⟩ = some (.bool ((rd_T86 l0 x12_1).f5)) := (blk_cell BK102.out 5).trans rfl
              have hcz40_6 : wc.cell? ⟨gb102, 6, none⟩ = some (.bool ((rd_T86 l0 x12_1).f6)) := (blk_cell BK102.out 6).trans rfl
              have hfz40_0 := blk_frozen BK102.out 0
              have hfz40_1 := blk_frozen BK102.out 1
              have hfz40_2 := blk_frozen BK102.out 2
              have hfz40_3 := blk_frozen BK102.out 3
              have hfz40_4 := blk_frozen BK102.out 4
              have hfz40_5 := blk_frozen BK102.out 5
              have hfz40_6 := blk_frozen BK102.out 6
              go_wp2
              repeat (go_quiet (fail); try go_wp2)
              go_ret
              exact ⟨by first | rfl | (simp [errW_none, errW_some] <;> rfl) | (simp [*, errW_none, errW_some] <;> rfl), by repeat (first | (with_reducible first | exact HB.out | apply below_alloc | apply pw_below_drewN | apply below_drew1 | refine below_set ?_ GE102.out) | exact HB.out)⟩
            ·rw [if_neg c27] at H
             have c27b0 : ((x3_2.length : Int) == 0) = false := beq_eq_false_iff_ne.mpr c27
             have c27b1 : ((x3_2.length : Int) != 0) = true := bne_iff_ne.mpr c27
             have c27b2 : ¬ (x3_2 = []) := fun h_ => c27 (by rw [h_]; rfl)
             by_cases c41 : ((rd_T86 l0 x12_1).f2) = (x3_2.length : Int)
             ·rw [if_pos c41] at H
              have c41b0 : (((rd_T86 l0 x12_1).f2) == (x3_2.length : Int)) = true := beq_iff_eq.mpr c41
              have c41b1 : (((rd_T86 l0 x12_1).f2) != (x3_2.length : Int)) = false := bne_eq_false_iff_eq.mpr c41
              clear c41
              by_cases c42 : (((rd_T86 l0 x12_1).f6) != (((rd_T86 l0 x12_1).f3) == (wrap64 (x12_1 + 1)))) = true
              ·rw [if_pos c42] at H
               have c42b0 : (((rd_T86 l0 x12_1).f6) != (((rd_T86 l0 x12_1).f3) == (wrap64 (x12_1 + 1)))) = true := c42
               (try (have c42b1 : decide (((rd_T86 l0 x12_1).f6) = (((rd_T86 l0 x12_1).f3) == (wrap64 (x12_1 + 1)))) = false := by simpa using c42))
               (try (have c42b2 : (((rd_T86 l0 x12_1).f6) == (((rd_T86 l0 x12_1).f3) == (wrap64 (x12_1 + 1)))) = false := by simpa using c42))
               (try (have c42b3 : ¬ (((rd_T86 l0 x12_1).f6) = (((rd_T86 l0 x12_1).f3) == (wrap64 (x12_1 + 1)))) := by simpa using c42))
               clear c42
               obtain rfl := Option.some.inj H
               obtain ⟨Ao43, co43, eo43⟩ := Kd.R_slice HO_3.out
               subst eo43
               have hcz44_0 : wc.cell? ⟨gb102, 0, none⟩ = some (.string ((rd_T86 l0 x12_1).f0)) := (blk_cell BK102.out 0).trans rfl
               have hcz44_1 : wc.cell? ⟨gb102, 1, none⟩ = some (.int .i64 ((rd_T86 l0 x12_1).f1)) := (blk_cell BK102.out 1).trans rfl
               have hcz44_2 : wc.cell? ⟨gb102, 2, none⟩ = some (.int .i64 ((rd_T86 l0 x12_1).f2)) := (blk_cell BK102.out 2).trans rfl
               have hcz44_3 : wc.cell? ⟨gb102, 3, none⟩ = some (.int .i64 ((rd_T86 l0 x12_1).f3)) := (blk_cell BK102.out 3).trans rfl
               have hcz44_4 : wc.cell? ⟨gb102, 4, none⟩ = some (.bool ((rd_T86 l0 x12_1).f4)) := (blk_cell BK102.out 4).trans rfl
               have hcz44_5 : wc.cell? ⟨gb102, 5, none⟩ = some (.bool ((rd_T86 l0 x12_1).f5)) := (blk_cell BK102.out 5).trans rfl
               have hcz44_6 : wc.cell? ⟨gb102, 6, none⟩ = some (.bool ((rd_T86 l0 x12_1).f6)) := (blk_cell BK102.out 6).trans rfl
               have hfz44_0 := blk_frozen BK102.out 0
               have hfz44_1 := blk_frozen BK102.out 1
               have hfz44_2 := blk_frozen BK102.out 2
               have hfz44_3 := blk_frozen BK102.out 3
               have hfz44_4 := blk_frozen BK102.out 4
               have hfz44_5 := blk_frozen BK102.out 5
               have hfz44_6 := blk_frozen BK102.out 6
               go_wp2
               repeat (go_quiet (fail); try go_wp2)
               go_ret
               exact ⟨by first | rfl | (simp [errW_none, errW_some] <;> rfl) | (simp [*, errW_none, errW_some] <;> rfl), by repeat (first | (with_reducible first | exact HB.out | apply below_alloc | apply pw_below_drewN | apply below_drew1 | refine below_set ?_ GE102.out) | exact HB.out)⟩
              ·rw [if_neg c42] at H
               have c42b0 : (((rd_T86 l0 x12_1).f6) != (((rd_T86 l0 x12_1).f3) == (wrap64 (x12_1 + 1)))) = false := by simpa using c42
               (try (have c42b1 : decide (((rd_T86 l0 x12_1).f6) = (((rd_T86 l0 x12_1).f3) == (wrap64 (x12_1 + 1)))) = true := by simpa using c42))
               (try (have c42b2 : (((rd_T86 l0 x12_1).f6) == (((rd_T86 l0 x12_1).f3) == (wrap64 (x12_1 + 1)))) = true := by simpa using c42))
               clear c42
               by_cases c45 : x3_2.length < 17592186044416
               ·rw [if_pos c45] at H
                have LMc45 := Aside0.mk c45
                clear c45
                obtain ⟨y112, hy112⟩ : ∃ y_ : List Int, y_ = (x3_2 ++ [x12_1]) := ⟨_, rfl⟩
                replace H : (tree_Formed.l0 kj7 l0 y112 l0 (l0.length : Int) (wrap64 (x12_1 + 1))) = some r := by first | (rw [hy112]; with_reducible exact H) | (have H2_ := (Option.bind_some _ _).symm.trans H; rw [hy112]; with_reducible exact H2_) | (have H2_ := (Option.bind_some _ _).symm.trans H; with_reducible exact H2_) | with_reducible exact H | (rw [hy112]; exact H) | exact H
                have Ny112 := Aside0.mk hy112
                clear hy112
                have H' := Aside0.mk H
                clear H
                obtain ⟨Ao46, co46, eo46⟩ := Kd.R_slice HO_3.out
                subst eo46
                have hcz47_0 : wc.cell? ⟨gb102, 0, none⟩ = some (.string ((rd_T86 l0 x12_1).f0)) := (blk_cell BK102.out 0).trans rfl
                have hcz47_1 : wc.cell? ⟨gb102, 1, none⟩ = some (.int .i64 ((rd_T86 l0 x12_1).f1)) := (blk_cell BK102.out 1).trans rfl
                have hcz47_2 : wc.cell? ⟨gb102, 2, none⟩ = some (.int .i64 ((rd_T86 l0 x12_1).f2)) := (blk_cell BK102.out 2).trans rfl
                have hcz47_3 : wc.cell? ⟨gb102, 3, none⟩ = some (.int .i64 ((rd_T86 l0 x12_1).f3)) := (blk_cell BK102.out 3).trans rfl
                have hcz47_4 : wc.cell? ⟨gb102, 4, none⟩ = some (.bool ((rd_T86 l0 x12_1).f4)) := (blk_cell BK102.out 4).trans rfl
                have hcz47_5 : wc.cell? ⟨gb102, 5, none⟩ = some (.bool ((rd_T86 l0 x12_1).f5)) := (blk_cell BK102.out 5).trans rfl
                have hcz47_6 : wc.cell? ⟨gb102, 6, none⟩ = some (.bool ((rd_T86 l0 x12_1).f6)) := (blk_cell BK102.out 6).trans rfl
                have hfz47_0 := blk_frozen BK102.out 0
                have hfz47_1 := blk_frozen BK102.out 1
                have hfz47_2 := blk_frozen BK102.out 2
                have hfz47_3 := blk_frozen BK102.out 3
                have hfz47_4 := blk_frozen BK102.out 4
                have hfz47_5 := blk_frozen BK102.out 5
                have hfz47_6 := blk_frozen BK102.out 6
                go_wp2_with (first | ((with_reducible refine gate_builtin (b := .append) (xs := #[.tmp 74, .tmp 76]) rfl ?_); (try (refine gate_guard (by rfl) ?_; dsimp only)); at_builtin; refine Kd.R_append (Kd.int .i64) (w0 := W1_) W1_.heap.size rfl (.tmp 74) (.tmp 76) 65 3 (.int .i64 0) 8 rfl Try.underlying65 info3 rfl (by decide) (by omega) (.slice Ao46 x3_2.length co46) x3_2 x12_1 [.int .i64 x12_1] (fun _ => True) (fun _ => False) rfl rfl ?aP (fun _ hk => hk.elim) ?aF ?aO ?aB ?aS ?aL ?_; (case aP => exact rfl); (case aB => exact kz2_1); (case aF => exact (fun _ _ => trivial)); (case aO => exact kz2_3); (case aS => exact (below_size kz2_1)); (case aL => have := LMc45.out; omega); intro v113 w48 ho hb hg hat; rw [← Ny112.out] at ho; have n0_ := Aside0.mk (blk_grown (g := gb102) (o := .cells #[.string ((rd_T86 l0 x12_1).f0), .int .i64 ((rd_T86 l0 x12_1).f1), .int .i64 ((rd_T86 l0 x12_1).f2), .int .i64 ((rd_T86 l0 x12_1).f3), .bool ((rd_T86 l0 x12_1).f4), .bool ((rd_T86 l0 x12_1).f5), .bool ((rd_T86 l0 x12_1).f6)] 86 (0, 0)) kz2_5 hg (Kd.R_ne HO_3.out BK102.out (by decide))); have n1_ := Aside0.mk (hb); have n2_ := Aside0.mk (ho); clear BK102; clear HB; clear HO_3; have BK102 := n0_; have HB := n1_; have HO114 := n2_; clear n0_ n1_ n2_; clear ho hb hg hat))
                repeat (go_quiet (first | ((with_reducible refine gate_builtin (b := .append) (xs := #[.tmp 74, .tmp 76]) rfl ?_); (try (refine gate_guard (by rfl) ?_; dsimp only)); at_builtin; refine Kd.R_append (Kd.int .i64) (w0 := W1_) W1_.heap.size rfl (.tmp 74) (.tmp 76) 65 3 (.int .i64 0) 8 rfl Try.underlying65 info3 rfl (by decide) (by omega) (.slice Ao46 x3_2.length co46) x3_2 x12_1 [.int .i64 x12_1] (fun _ => True) (fun _ => False) rfl rfl ?aP (fun _ hk => hk.elim) ?aF ?aO ?aB ?aS ?aL ?_; (case aP => exact rfl); (case aB => exact kz2_1); (case aF => exact (fun _ _ => trivial)); (case aO => exact kz2_3); (case aS => exact (below_size kz2_1)); (case aL => have := LMc45.out; omega); intro v113 w48 ho hb hg hat; rw [← Ny112.out] at ho; have n0_ := Aside0.mk (blk_grown (g := gb102) (o := .cells #[.string ((rd_T86 l0 x12_1).f0), .int .i64 ((rd_T86 l0 x12_1).f1), .int .i64 ((rd_T86 l0 x12_1).f2), .int .i64 ((rd_T86 l0 x12_1).f3), .bool ((rd_T86 l0 x12_1).f4), .bool ((rd_T86 l0 x12_1).f5), .bool ((rd_T86 l0 x12_1).f6)] 86 (0, 0)) kz2_5 hg (Kd.R_ne HO_3.out BK102.out (by decide))); have n1_ := Aside0.mk (hb); have n2_ := Aside0.mk (ho); clear BK102; clear HB; clear HO_3; have BK102 := n0_; have HB := n1_; have HO114 := n2_; clear n0_ n1_ n2_; clear ho hb hg hat)); try go_wp2_with (first | ((with_reducible refine gate_builtin (b := .append) (xs := #[.tmp 74, .tmp 76]) rfl ?_); (try (refine gate_guard (by rfl) ?_; dsimp only)); at_builtin; refine Kd.R_append (Kd.int .i64) (w0 := W1_) W1_.heap.size rfl (.tmp 74) (.tmp 76) 65 3 (.int .i64 0) 8 rfl Try.underlying65 info3 rfl (by decide) (by omega) (.slice Ao46 x3_2.length co46) x3_2 x12_1 [.int .i64 x12_1] (fun _ => True) (fun _ => False) rfl rfl ?aP (fun _ hk => hk.elim) ?aF ?aO ?aB ?aS ?aL ?_; (case aP => exact rfl); (case aB => exact kz2_1); (case aF => exact (fun _ _ => trivial)); (case aO => exact kz2_3); (case aS => exact (below_size kz2_1)); (case aL => have := LMc45.out; omega); intro v113 w48 ho hb hg hat; rw [← Ny112.out] at ho; have n0_ := Aside0.mk (blk_grown (g := gb102) (o := .cells #[.string ((rd_T86 l0 x12_1).f0), .int .i64 ((rd_T86 l0 x12_1).f1), .int .i64 ((rd_T86 l0 x12_1).f2), .int .i64 ((rd_T86 l0 x12_1).f3), .bool ((rd_T86 l0 x12_1).f4), .bool ((rd_T86 l0 x12_1).f5), .bool ((rd_T86 l0 x12_1).f6)] 86 (0, 0)) kz2_5 hg (Kd.R_ne HO_3.out BK102.out (by decide))); have n1_ := Aside0.mk (hb); have n2_ := Aside0.mk (ho); clear BK102; clear HB; clear HO_3; have BK102 := n0_; have HB := n1_; have HO114 := n2_; clear n0_ n1_ n2_; clear ho hb hg hat)))
                go_roundg kj7
                case measure => have := HK1.out; have := HK2.out; have := HJ7.out; omega
                case rel => exact ⟨(y112), (wrap64 (x12_1 + 1)), (by first | rfl | (simp; done) | (simp [*]; done)), H', ⟨by have := HK1.out; have := HK2.out; have := HJ7.out; omega⟩, ⟨by (with_reducible repeat (first | apply Kd.R_alloc | apply Kd.R_drewN | apply Kd.R_drew)); exact HO114.out⟩, ⟨by repeat (first | (with_reducible first | exact HB.out | apply below_alloc | apply pw_below_drewN | apply below_drew1 | refine below_set ?_ GE102.out) | exact HB.out)⟩⟩
               ·rw [if_neg c45] at H
                exact absurd H (by simp)
             ·rw [if_neg c41] at H
              have c41b0 : (((rd_T86 l0 x12_1).f2) == (x3_2.length : Int)) = false := beq_eq_false_iff_ne.mpr c41
              have c41b1 : (((rd_T86 l0 x12_1).f2) != (x3_2.length : Int)) = true := bne_iff_ne.mpr c41
              obtain rfl := Option.some.inj H
              obtain ⟨Ao49, co49, eo49⟩ := Kd.R_slice HO_3.out
              subst eo49
              have hcz50_0 : wc.cell? ⟨gb102, 0, none⟩ = some (.string ((rd_T86 l0 x12_1).f0)) := (blk_cell BK102.out 0).trans rfl
              have hcz50_1 : wc.cell? ⟨gb102, 1, none⟩ = some (.int .i64 ((rd_T86 l0 x12_1).f1)) := (blk_cell BK102.out 1).trans rfl
              have hcz50_2 : wc.cell? ⟨gb102, 2, none⟩ = some (.int .i64 ((rd_T86 l0 x12_1).f2)) := (blk_cell BK102.out 2).trans rfl
              have hcz50_3 : wc.cell? ⟨gb102, 3, none⟩ = some (.int .i64 ((rd_T86 l0 x12_1).f3)) := (blk_cell BK102.out 3).trans rfl
              have hcz50_4 : wc.cell? ⟨gb102, 4, none⟩ = some (.bool ((rd_T86 l0 x12_1).f4)) := (blk_cell BK102.out 4).trans rfl
              have hcz50_5 : wc.cell? ⟨gb102, 5, none⟩ = some (.bool ((rd_T86 l0 x12_1).f5)) := (blk_cell BK102.out 5).trans rfl
              have hcz50_6 : wc.cell? ⟨gb102, 6, none⟩ = some (.bool ((rd_T86 l0 x12_1).f6)) := (blk_cell BK102.out 6).trans rfl
              have hfz50_0 := blk_frozen BK102.out 0
              have hfz50_1 := blk_frozen BK102.out 1
              have hfz50_2 := blk_frozen BK102.out 2
              have hfz50_3 := blk_frozen BK102.out 3
              have hfz50_4 := blk_frozen BK102.out 4
              have hfz50_5 := blk_frozen BK102.out 5
              have hfz50_6 := blk_frozen BK102.out 6
              go_wp2
              repeat (go_quiet (fail); try go_wp2)
              go_ret
              exact ⟨by first | rfl | (simp [errW_none, errW_some] <;> rfl) | (simp [*, errW_none, errW_some] <;> rfl), by repeat (first | (with_reducible first | exact HB.out | apply below_alloc | apply pw_below_drewN | apply below_drew1 | refine below_set ?_ GE102.out) | exact HB.out)⟩
      ·rw [if_neg c5] at H
       exact absurd H (by simp)
     ·rw [if_neg c4] at H
      exact absurd H (by simp)
    ·rw [if_neg c3] at H
     have c3b0 : decide (x12_1 < (l0.length : Int)) = false := decide_eq_false c3
     clear c3
     have H' := Aside0.mk H
     clear H
     obtain ⟨Ao51, co51, eo51⟩ := Kd.R_slice HO_3.out
     subst eo51
     obtain ⟨Ao52, co52, eo52, ho52, hC52⟩ := Kd.R_reads HO_3.out
     cases eo52
     have hcon := Aside0.mk (tree_Formed.con k1 l0 x3_1 A0 Ao51 c0 co51 bx_ wr (Kd.C_below HR0.out HB.out) hC52 (blk_below hbx_.out HB.out) r H'.out)
     go_wp2_with (first | (go_at_call 90; (with_reducible refine hcon.out.mono ?_); rintro e w5 ⟨rfl, hb5⟩; have HB5 := Aside0.mk (below_step HB.out hb5); clear hb5) | fail)
     go_ret
     exact ⟨by simp, HB5.out⟩

end Go.Proofs.Ytjghlomkimoeoaa.PConfigAsks
