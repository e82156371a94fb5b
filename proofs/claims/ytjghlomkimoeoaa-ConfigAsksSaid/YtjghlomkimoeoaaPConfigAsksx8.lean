-- Written by fprint.py (wip), by way of the printer's functions; where they are turned, by texts of mine.
import Derived.Test.YtjghlomkimoeoaaPConfigAsksx0
import Derived.Test.YtjghlomkimoeoaaPConfigAsksx6
import Derived.Test.YtjghlomkimoeoaaPConfigAsksx7
namespace Go.Proofs.Ytjghlomkimoeoaa.PConfigAsks
open Go.RowKit Go.Proofs.YtjghlomkimoeoaaW.PrintWords Go.Proofs.YtjghlomkimoeoaaW.PrintLast Go.Proofs.YtjghlomkimoeoaaW.PrintMore
attribute [local go_sem] max2_int min2_int max_two min_two max_three min_three max_four min_four   -- for this text's walks alone
set_option linter.unusedVariables false
set_option linter.unusedSimpArgs false
theorem kz8_1 {p_ : Prop} (h_ : p_ := by first | (with_reducible assumption) | assumption) : p_ := h_
theorem kz8_2 {p_ : Prop} (h_ : p_ := by (try simp only [List.map_toArray, List.map_cons, List.map_nil]); first | done | rfl | (simp only [List.length_drop, List.length_take]; rfl)) : p_ := h_
theorem kz8_3 {p_ : Prop} (h_ : p_ := by first | rfl | (simp; done) | (simp [*]; done)) : p_ := h_
theorem kz8_4 {p_ : Prop} (h_ : p_ := by repeat (first | (with_reducible first | exact HB.out | apply below_alloc | apply pw_below_drewN | apply below_drew1) | exact HB.out)) : p_ := h_

/-! ### tumbrelref09_Legal: function 45 -/
mutual
def tumbrelref09_Legal.j0 : Nat → List (S140) → List Int → Bool → Option (Bool)
 | 0, _, _, _ => none
 | k + 1, x0, x1, x25 => if x25 = true then (some false) else (tumbrelref09_Legal.l0 k x0 x1 (x1.length : Int) 0)
def tumbrelref09_Legal.l0 : Nat → List (S140) → List Int → Int → Int → Option (Bool)
 | 0, _, _, _, _ => none
 | k + 1, x0, x1, x27, x28 => if x28 < x27 then (if 0 ≤ x28 then (if x28 < (x1.length : Int) then ((tumbrelref09_state.f x0 (rd x1 x28)).bind fun t186 => (if t186 = true then (if x28 > 0 then (if 0 ≤ (wrap64 (x28 - 1)) then (if (wrap64 (x28 - 1)) < (x1.length : Int) then (if (rd x1 (wrap64 (x28 - 1))) ≥ (rd x1 x28) then (some false) else (if 0 ≤ (rd x1 x28) then (if (rd x1 x28) < (x0.length : Int) then (if ((rd_T140 x0 (rd x1 x28)).f1) ≥ 0 then ((tumbrelref09_has.f k x1 ((rd_T140 x0 (rd x1 x28)).f1)).bind fun t193 => (if t193 = true then (tumbrelref09_Legal.l0 k x0 x1 x27 (wrap64 (x28 + 1))) else (some false))) else (tumbrelref09_Legal.l0 k x0 x1 x27 (wrap64 (x28 + 1)))) else (none)) else (none))) else (none)) else (none)) else (if 0 ≤ (rd x1 x28) then (if (rd x1 x28) < (x0.length : Int) then (if ((rd_T140 x0 (rd x1 x28)).f1) ≥ 0 then ((tumbrelref09_has.f k x1 ((rd_T140 x0 (rd x1 x28)).f1)).bind fun t198 => (if t198 = true then (tumbrelref09_Legal.l0 k x0 x1 x27 (wrap64 (x28 + 1))) else (some false))) else (tumbrelref09_Legal.l0 k x0 x1 x27 (wrap64 (x28 + 1)))) else (none)) else (none))) else (some false))) else (none)) else (none)) else (tumbrelref09_Legal.l1 k x0 x1 (-1))
def tumbrelref09_Legal.l1 : Nat → List (S140) → List Int → Int → Option (Bool)
 | 0, _, _, _ => none
 | k + 1, x0, x1, x6 => if x6 < (x0.length : Int) then (if x6 ≥ 0 then (if 0 ≤ x6 then (if (rd_T140 x0 x6).f6 = true then (tumbrelref09_Legal.j3 k x0 x1 x6 true) else ((tumbrelref09_has.f k x1 x6).bind fun t200 => (tumbrelref09_Legal.j3 k x0 x1 x6 (!t200)))) else (none)) else (tumbrelref09_Legal.j3 k x0 x1 x6 false)) else (some true)
def tumbrelref09_Legal.j3 : Nat → List (S140) → List Int → Int → Bool → Option (Bool)
 | 0, _, _, _, _ => none
 | k + 1, x0, x1, x6, x99 => if x99 = true then (tumbrelref09_Legal.l1 k x0 x1 (wrap64 (x6 + 1))) else ((tumbrelref09_Inner.f k x0 x6).bind fun t201 => (tumbrelref09_Legal.l2 k x0 x1 x6 t201 0 (t201.length : Int) 0))
def tumbrelref09_Legal.l2 : Nat → List (S140) → List Int → Int → List Int → Int → Int → Int → Option (Bool)
 | 0, _, _, _, _, _, _, _ => none
 | k + 1, x0, x1, x6, x7, x8, x104, x105 => if x105 < x104 then (if 0 ≤ x105 then (if x105 < (x7.length : Int) then ((tumbrelref09_has.f k x1 (rd x7 x105)).bind fun t205 => (if t205 = true then (tumbrelref09_Legal.l2 k x0 x1 x6 x7 (wrap64 (x8 + 1)) x104 (wrap64 (x105 + 1))) else (tumbrelref09_Legal.l2 k x0 x1 x6 x7 x8 x104 (wrap64 (x105 + 1))))) else (none)) else (none)) else (if x6 ≥ 0 then (if 0 ≤ x6 then (if x6 < (x0.length : Int) then (tumbrelref09_Legal.j5 k x0 x1 x6 x7 x8 1 ((rd_T140 x0 x6).f4)) else (none)) else (none)) else (tumbrelref09_Legal.j5 k x0 x1 x6 x7 x8 1 false))
def tumbrelref09_Legal.j5 : Nat → List (S140) → List Int → Int → List Int → Int → Int → Bool → Option (Bool)
 | 0, _, _, _, _, _, _, _ => none
 | k + 1, x0, x1, x6, x7, x8, x10, x125 => if x125 = true then (if x8 = (x7.length : Int) then (tumbrelref09_Legal.l1 k x0 x1 (wrap64 (x6 + 1))) else (some false)) else (if x8 = x10 then (tumbrelref09_Legal.l1 k x0 x1 (wrap64 (x6 + 1))) else (some false))
end
def tumbrelref09_Legal.f (k : Nat) (l0 : List (S140)) (l1 : List Int) : Option (Bool) := (tumbrelref09_Formed.f k l0).bind fun t184 => (if t184 = true then (if (l1.length : Int) = 0 then (tumbrelref09_Legal.j0 k l0 l1 true) else (tumbrelref09_Legal.j0 k l0 l1 (decide ((l1.length : Int) > (l0.length : Int))))) else (tumbrelref09_Legal.j0 k l0 l1 true))
theorem tumbrelref09_Legal.mono_l : ∀ k, (∀ y0 y1 y2, LeO (tumbrelref09_Legal.j0 k y0 y1 y2) (tumbrelref09_Legal.j0 (k + 1) y0 y1 y2)) ∧ (∀ y0 y1 y2 y3, LeO (tumbrelref09_Legal.l0 k y0 y1 y2 y3) (tumbrelref09_Legal.l0 (k + 1) y0 y1 y2 y3)) ∧ (∀ y0 y1 y2, LeO (tumbrelref09_Legal.l1 k y0 y1 y2) (tumbrelref09_Legal.l1 (k + 1) y0 y1 y2)) ∧ (∀ y0 y1 y2 y3, LeO (tumbrelref09_Legal.j3 k y0 y1 y2 y3) (tumbrelref09_Legal.j3 (k + 1) y0 y1 y2 y3)) ∧ (∀ y0 y1 y2 y3 y4 y5 y6, LeO (tumbrelref09_Legal.l2 k y0 y1 y2 y3 y4 y5 y6) (tumbrelref09_Legal.l2 (k + 1) y0 y1 y2 y3 y4 y5 y6)) ∧ (∀ y0 y1 y2 y3 y4 y5 y6, LeO (tumbrelref09_Legal.j5 k y0 y1 y2 y3 y4 y5 y6) (tumbrelref09_Legal.j5 (k + 1) y0 y1 y2 y3 y4 y5 y6))
 | 0 => ⟨fun _ _ _ r h => by simp [tumbrelref09_Legal.j0] at h, fun _ _ _ _ r h => by simp [tumbrelref09_Legal.l0] at h, fun _ _ _ r h => by simp [tumbrelref09_Legal.l1] at h, fun _ _ _ _ r h => by simp [tumbrelref09_Legal.j3] at h, fun _ _ _ _ _ _ _ r h => by simp [tumbrelref09_Legal.l2] at h, fun _ _ _ _ _ _ _ r h => by simp [tumbrelref09_Legal.j5] at h⟩
 | k + 1 => by
  obtain ⟨ih0, ih1, ih2, ih3, ih4, ih5⟩ := tumbrelref09_Legal.mono_l k
  refine ⟨?_, ?_, ?_, ?_, ?_, ?_⟩
  ·intro y0 y1 y2
   unfold tumbrelref09_Legal.j0
   repeat' first
   | (with_reducible exact ih0 _ _ _)
   | (with_reducible exact ih1 _ _ _ _)
   | (with_reducible exact ih2 _ _ _)
   | (with_reducible exact ih3 _ _ _ _)
   | (with_reducible exact ih4 _ _ _ _ _ _ _)
   | (with_reducible exact ih5 _ _ _ _ _ _ _)
   | (with_reducible exact tumbrelref09_Formed.mono _ _)
   | (with_reducible exact tumbrelref09_Inner.mono _ _ _)
   | (with_reducible exact tumbrelref09_has.mono _ _ _)
   | (with_reducible exact LeO.refl _)
   | (with_reducible exact LeO.none _)
   | (with_reducible refine LeO.ite ?_ ?_)
   | (with_reducible refine LeO.bind ?_ (fun _ => ?_))
   | exact ih0 _ _ _
   | exact ih1 _ _ _ _
   | exact ih2 _ _ _
   | exact ih3 _ _ _ _
   | exact ih4 _ _ _ _ _ _ _
   | exact ih5 _ _ _ _ _ _ _
   | exact tumbrelref09_Formed.mono _ _
   | exact tumbrelref09_Inner.mono _ _ _
   | exact tumbrelref09_has.mono _ _ _
   | exact LeO.none _
   | refine LeO.ite ?_ ?_
   | refine LeO.bind ?_ (fun _ => ?_)
  ·intro y0 y1 y2 y3
   unfold tumbrelref09_Legal.l0
   repeat' first
   | (with_reducible exact ih0 _ _ _)
   | (with_reducible exact ih1 _ _ _ _)
   | (with_reducible exact ih2 _ _ _)
   | (with_reducible exact ih3 _ _ _ _)
   | (with_reducible exact ih4 _ _ _ _ _ _ _)
   | (with_reducible exact ih5 _ _ _ _ _ _ _)
   | (with_reducible exact tumbrelref09_Formed.mono _ _)
   | (with_reducible exact tumbrelref09_Inner.mono _ _ _)
   | (with_reducible exact tumbrelref09_has.mono _ _ _)
   | (with_reducible exact LeO.refl _)
   | (with_reducible exact LeO.none _)
   | (with_reducible refine LeO.ite ?_ ?_)
   | (with_reducible refine LeO.bind ?_ (fun _ => ?_))
   | exact ih0 _ _ _
   | exact ih1 _ _ _ _
   | exact ih2 _ _ _
   | exact ih3 _ _ _ _
   | exact ih4 _ _ _ _ _ _ _
   | exact ih5 _ _ _ _ _ _ _
   | exact tumbrelref09_Formed.mono _ _
   | exact tumbrelref09_Inner.mono _ _ _
   | exact tumbrelref09_has.mono _ _ _
   | exact LeO.none _
   | refine LeO.ite ?_ ?_
   | refine LeO.bind ?_ (fun _ => ?_)
  ·intro y0 y1 y2
   unfold tumbrelref09_Legal.l1
   repeat' first
   | (with_reducible exact ih0 _ _ _)
   | (with_reducible exact ih1 _ _ _ _)
   | (with_reducible exact ih2 _ _ _)
   | (with_reducible exact ih3 _ _ _ _)
   | (with_reducible exact ih4 _ _ _ _ _ _ _)
   | (with_reducible exact ih5 _ _ _ _ _ _ _)
   | (with_reducible exact tumbrelref09_Formed.mono _ _)
   | (with_reducible exact tumbrelref09_Inner.mono _ _ _)
   | (with_reducible exact tumbrelref09_has.mono _ _ _)
   | (with_reducible exact LeO.refl _)
   | (with_reducible exact LeO.none _)
   | (with_reducible refine LeO.ite ?_ ?_)
   | (with_reducible refine LeO.bind ?_ (fun _ => ?_))
   | exact ih0 _ _ _
   | exact ih1 _ _ _ _
   | exact ih2 _ _ _
   | exact ih3 _ _ _ _
   | exact ih4 _ _ _ _ _ _ _
   | exact ih5 _ _ _ _ _ _ _
   | exact tumbrelref09_Formed.mono _ _
   | exact tumbrelref09_Inner.mono _ _ _
   | exact tumbrelref09_has.mono _ _ _
   | exact LeO.none _
   | refine LeO.ite ?_ ?_
   | refine LeO.bind ?_ (fun _ => ?_)
  ·intro y0 y1 y2 y3
   unfold tumbrelref09_Legal.j3
   repeat' first
   | (with_reducible exact ih0 _ _ _)
   | (with_reducible exact ih1 _ _ _ _)
   | (with_reducible exact ih2 _ _ _)
   | (with_reducible exact ih3 _ _ _ _)
   | (with_reducible exact ih4 _ _ _ _ _ _ _)
   | (with_reducible exact ih5 _ _ _ _ _ _ _)
   | (with_reducible exact tumbrelref09_Formed.mono _ _)
   | (with_reducible exact tumbrelref09_Inner.mono _ _ _)
   | (with_reducible exact tumbrelref09_has.mono _ _ _)
   | (with_reducible exact LeO.refl _)
   | (with_reducible exact LeO.none _)
   | (with_reducible refine LeO.ite ?_ ?_)
   | (with_reducible refine LeO.bind ?_ (fun _ => ?_))
   | exact ih0 _ _ _
   | exact ih1 _ _ _ _
   | exact ih2 _ _ _
   | exact ih3 _ _ _ _
   | exact ih4 _ _ _ _ _ _ _
   | exact ih5 _ _ _ _ _ _ _
   | exact tumbrelref09_Formed.mono _ _
   | exact tumbrelref09_Inner.mono _ _ _
   | exact tumbrelref09_has.mono _ _ _
   | exact LeO.none _
   | refine LeO.ite ?_ ?_
   | refine LeO.bind ?_ (fun _ => ?_)
  ·intro y0 y1 y2 y3 y4 y5 y6
   unfold tumbrelref09_Legal.l2
   repeat' first
   | (with_reducible exact ih0 _ _ _)
   | (with_reducible exact ih1 _ _ _ _)
   | (with_reducible exact ih2 _ _ _)
   | (with_reducible exact ih3 _ _ _ _)
   | (with_reducible exact ih4 _ _ _ _ _ _ _)
   | (with_reducible exact ih5 _ _ _ _ _ _ _)
   | (with_reducible exact tumbrelref09_Formed.mono _ _)
   | (with_reducible exact tumbrelref09_Inner.mono _ _ _)
   | (with_reducible exact tumbrelref09_has.mono _ _ _)
   | (with_reducible exact LeO.refl _)
   | (with_reducible exact LeO.none _)
   | (with_reducible refine LeO.ite ?_ ?_)
   | (with_reducible refine LeO.bind ?_ (fun _ => ?_))
   | exact ih0 _ _ _
   | exact ih1 _ _ _ _
   | exact ih2 _ _ _
   | exact ih3 _ _ _ _
   | exact ih4 _ _ _ _ _ _ _
   | exact ih5 _ _ _ _ _ _ _
   | exact tumbrelref09_Formed.mono _ _
   | exact tumbrelref09_Inner.mono _ _ _
   | exact tumbrelref09_has.mono _ _ _
   | exact LeO.none _
   | refine LeO.ite ?_ ?_
   | refine LeO.bind ?_ (fun _ => ?_)
  ·intro y0 y1 y2 y3 y4 y5 y6
   unfold tumbrelref09_Legal.j5
   repeat' first
   | (with_reducible exact ih0 _ _ _)
   | (with_reducible exact ih1 _ _ _ _)
   | (with_reducible exact ih2 _ _ _)
   | (with_reducible exact ih3 _ _ _ _)
   | (with_reducible exact ih4 _ _ _ _ _ _ _)
   | (with_reducible exact ih5 _ _ _ _ _ _ _)
   | (with_reducible exact tumbrelref09_Formed.mono _ _)
   | (with_reducible exact tumbrelref09_Inner.mono _ _ _)
   | (with_reducible exact tumbrelref09_has.mono _ _ _)
   | (with_reducible exact LeO.refl _)
   | (with_reducible exact LeO.none _)
   | (with_reducible refine LeO.ite ?_ ?_)
   | (with_reducible refine LeO.bind ?_ (fun _ => ?_))
   | exact ih0 _ _ _
   | exact ih1 _ _ _ _
   | exact ih2 _ _ _
   | exact ih3 _ _ _ _
   | exact ih4 _ _ _ _ _ _ _
   | exact ih5 _ _ _ _ _ _ _
   | exact tumbrelref09_Formed.mono _ _
   | exact tumbrelref09_Inner.mono _ _ _
   | exact tumbrelref09_has.mono _ _ _
   | exact LeO.none _
   | refine LeO.ite ?_ ?_
   | refine LeO.bind ?_ (fun _ => ?_)
theorem tumbrelref09_Legal.mono : ∀ a0 a1 k, LeO (tumbrelref09_Legal.f k a0 a1) (tumbrelref09_Legal.f (k + 1) a0 a1) := by
 intro a0 a1 k
 obtain ⟨ih0, ih1, ih2, ih3, ih4, ih5⟩ := tumbrelref09_Legal.mono_l k
 unfold tumbrelref09_Legal.f
 repeat' first
   | (with_reducible exact ih0 _ _ _)
   | (with_reducible exact ih1 _ _ _ _)
   | (with_reducible exact ih2 _ _ _)
   | (with_reducible exact ih3 _ _ _ _)
   | (with_reducible exact ih4 _ _ _ _ _ _ _)
   | (with_reducible exact ih5 _ _ _ _ _ _ _)
   | (with_reducible exact tumbrelref09_Formed.mono _ _)
   | (with_reducible exact tumbrelref09_Inner.mono _ _ _)
   | (with_reducible exact tumbrelref09_has.mono _ _ _)
   | (with_reducible exact LeO.refl _)
   | (with_reducible exact LeO.none _)
   | (with_reducible refine LeO.ite ?_ ?_)
   | (with_reducible refine LeO.bind ?_ (fun _ => ?_))
   | exact ih0 _ _ _
   | exact ih1 _ _ _ _
   | exact ih2 _ _ _
   | exact ih3 _ _ _ _
   | exact ih4 _ _ _ _ _ _ _
   | exact ih5 _ _ _ _ _ _ _
   | exact tumbrelref09_Formed.mono _ _
   | exact tumbrelref09_Inner.mono _ _ _
   | exact tumbrelref09_has.mono _ _ _
   | exact LeO.none _
   | refine LeO.ite ?_ ?_
   | refine LeO.bind ?_ (fun _ => ?_)
def dA_ (n m : Nat) : Array Bool := ((List.range n).map fun i => m.testBit i).toArray
section
variable {P : Program} {ops : Array Oper} {Q : Exit → Act → World → Prop} {md : Region.Mode} {S : World → Prop} {ds : List Nat} {oi : Oper} {v : Value} {fuel : Nat} {l : Array Bool} {a a' : Act} {w : World} {T : Bool × List (List Nat × List Nat)}
theorem pz_ (i : Nat) (N : Option Tmp) (l' : Array Bool) (hT : Aside0 (rtab md ops = T)) (hi : ops[i]? = some oi := by rfl) (hN : oi.dst = N := by rfl) (hc : anyT T l.toList l'.toList i = true := by kernel_rfl) (hQ : ∀ c a w, Q (.panic c) (a.put oi.dst v) w → Q (.panic c) a w := by exact fun _ _ _ h => h)
  (hw : Region.wanted oi (yielded ops a.tmps) = true := by rfl) (hy : ∀ w, (execOp a.eval oi).run P w = .ok (.value v) w := by intro w'; go_simp; with_reducible rfl) (ha : a.put N v = a' := by (simp only [Act.put, List.setIfInBounds_toArray, List.set_cons_zero, List.set_cons_succ, i64_w, i32_w]; rfl))
  (h : wpAnyLast P md ops Q S ds fuel l' a' w) : wpAnyLast P md ops Q S ds (fuel + 1) l a w := pure_ (i := i) l' hi hN (any_of hT.out hc) hQ (Or.inl ⟨hw, hy⟩) ha h
theorem pu_ (i : Nat) (N : Option Tmp) (l' : Array Bool) (hT : Aside0 (rtab md ops = T)) (hi : ops[i]? = some oi := by rfl) (hN : oi.dst = N := by rfl) (hc : anyT T l.toList l'.toList i = true := by kernel_rfl) (hQ : ∀ c a w, Q (.panic c) (a.put oi.dst undef) w → Q (.panic c) a w := by exact fun _ _ _ h => h)
  (hw : Region.wanted oi (yielded ops a.tmps) = false := by rfl) (ha : a.put N undef = a' := by (simp only [Act.put, List.setIfInBounds_toArray, List.set_cons_zero, List.set_cons_succ, i64_w, i32_w]; rfl))
  (h : wpAnyLast P md ops Q S ds fuel l' a' w) : wpAnyLast P md ops Q S ds (fuel + 1) l a w := pure_ (i := i) l' hi hN (any_of hT.out hc) hQ (Or.inr ⟨hw, rfl⟩) ha h
end
def tumbrelref09_Legal.T6 : Bool × List (List Nat × List Nat) := (true, [([], []), ([], []), ([], []), ([1, 2], [1, 2]), ([3], [3]), ([0, 4], [0, 4]), ([5], [5]), ([6, 5], [6]), ([7], [7]), ([8, 7], [7, 8]), ([9, 7, 7], [7, 9]), ([10], [10]), ([10], [10]), ([12, 10], [10, 12]), ([11, 13, 10], [10, 11, 13]), ([14, 10], [10, 14]), ([10], [10]), ([10], [10]), ([16, 17, 10], [10, 16, 17]), ([18, 10], [10, 18]), ([15, 19, 10], [10, 15, 19]), ([10, 20, 7], [7, 10, 20]), ([7, 21], [7, 21]), ([22, 10], [22]), ([23], [23]), ([23], [23]), ([23], [23]), ([25, 26, 23], [23, 25, 26]), ([27, 23], [23, 27]), ([24, 28, 23], [23, 24, 28]), ([29, 23], [23, 29]), ([30, 23], [23, 30]), ([31, 23], [23, 31]), ([32, 23, 23], [23, 32]), ([33], [33]), ([33], [33]), ([33], [33]), ([33], [33]), ([36, 37, 33], [33, 36, 37]), ([38, 33], [33, 38]), ([35, 39, 33], [33, 35, 39]), ([40, 33], [33, 40]), ([41, 33], [33, 41]), ([34, 42, 33, 33], [33, 34, 42]), ([43, 33], [33, 43]), ([33, 44, 23], [23, 33, 44]), ([23, 45], [23, 45])])
def tumbrelref09_Legal.B6 : List Nat := [0, 0, 0, 6, 14, 31, 63, 127, 255, 511, 1023, 2047, 2047, 6143, 16383, 32767, 2047, 2047, 198655, 460799, 1048575, 2097151, 4194303, 8388607, 16777215, 16777215, 16777215, 117440511, 251658239, 536870911, 1073741823, 2147483647, 4294967295, 8589934591, 17179869183, 17179869183, 17179869183, 17179869183, 223338299391, 498216206335, 1082331758591, 2181843386367, 4380866641919, 8796093022207, 17592186044415, 35184372088831, 70368744177663]
theorem tumbrelref09_Legal.tab6 : rtab .any (opsOf Try.f45 6) = tumbrelref09_Legal.T6 := by kernel_rfl
theorem tumbrelref09_Legal.bits6 : waitsOk tumbrelref09_Legal.T6.2 tumbrelref09_Legal.B6 = true := by kernel_rfl
set_option maxHeartbeats 8000000 in
set_option maxRecDepth 100000 in
theorem tumbrelref09_Legal.calls (k : Nat) (A0 : Option Addr) (c0 : Nat) (l0 : List (S140)) (A1 : Option Addr) (c1 : Nat) (l1 : List Int) (r : Bool) (w : World) (hr0 : Kd.C k140 w A0 l0.length l0) (hc0 : l0.length ≤ c0) (hr1 : Kd.C (Kd.int .i64) w A1 l1.length l1) (hc1 : l1.length ≤ c1) (h : tumbrelref09_Legal.f k l0 l1 = some r) :
  Calls Try.prog 45 #[.slice A0 l0.length c0, .slice A1 l1.length c1] w fun e w' => e = .returned (.bool r) ∧ Below w.heap.size w w' := by
 have HR0 := Aside0.mk hr0
 have HC0 := Aside0.mk hc0
 clear hr0 hc0
 have HR1 := Aside0.mk hr1
 have HC1 := Aside0.mk hc1
 clear hr1 hc1
 have HB := Aside0.mk (Below.refl w.heap.size w)
 have H : ((tumbrelref09_Formed.f k l0).bind fun t184 => (if t184 = true then (if (l1.length : Int) = 0 then (tumbrelref09_Legal.j0 k l0 l1 true) else (tumbrelref09_Legal.j0 k l0 l1 (decide ((l1.length : Int) > (l0.length : Int))))) else (tumbrelref09_Legal.j0 k l0 l1 true))) = some r := h
 clear h
 have HC3 := Aside0.mk H
 clear H
 go_enter Try.func45, Try.ntmps45
 go_upto_region 1 with (fail)
 go_cut [25] (fun v25 wc => ∃ (kq : Nat) (x25_2 : Bool), v25 = .bool x25_2 ∧ Aside0 (tumbrelref09_Legal.j0 kq l0 l1 x25_2 = some r) ∧ Aside0 (kq ≤ k) ∧ Aside0 (Below w.heap.size w wc))
 case first =>
  have H := HC3.out
  clear HC3
  replace H := Option.bind_eq_some_iff.mp H
  obtain ⟨t184, A40, H⟩ := H
  replace H : (if t184 = true then (if (l1.length : Int) = 0 then (tumbrelref09_Legal.j0 k l0 l1 true) else (tumbrelref09_Legal.j0 k l0 l1 (decide ((l1.length : Int) > (l0.length : Int))))) else (tumbrelref09_Legal.j0 k l0 l1 true)) = some r := H
  have A4 := Aside0.mk A40
  clear A40
  by_cases c5 : t184 = true
  ·subst c5
   have H1 : (if (l1.length : Int) = 0 then (tumbrelref09_Legal.j0 k l0 l1 true) else (tumbrelref09_Legal.j0 k l0 l1 (decide ((l1.length : Int) > (l0.length : Int))))) = some r := by rw [if_pos rfl] at H; exact H
   clear H
   have H := H1
   clear H1
   by_cases c6 : (l1.length : Int) = 0
   ·rw [if_pos c6] at H
    have c6b0 : ((l1.length : Int) == 0) = true := beq_iff_eq.mpr c6
    have c6b1 : ((l1.length : Int) != 0) = false := bne_eq_false_iff_eq.mpr c6
    clear c6
    (first | rw [c6b0] | (simp only [i64_w, i32_w]; rw [c6b0]) | skip)
    have H' := Aside0.mk H
    clear H
    go_wp2_with (first | ((with_reducible refine gate_callee (f := 86) rfl ?_); refine goesL_ (some 12) rfl rfl Try.func86 (by kernel_rfl) rfl #[.slice A0 l0.length c0] rfl kz8_2 ?_; (with_reducible refine (tumbrelref09_Formed.calls k _ _ l0 true _ ?side1 ?side2 A4.out).mono ?_); (case side1 => repeat (first | exact (Kd.C_below HR0.out HB.out) | (with_reducible refine Kd.C_alloc ?_ _) | (with_reducible refine Kd.C_drewN ?_ _) | (with_reducible refine Kd.C_drew ?_))); (case side2 => exact HC0.out); rintro e w' ⟨rfl, ⟨nd, rfl⟩⟩; refine ⟨_, rfl, ?_⟩))
    go_meet
    case rel => exact ⟨_, (true), kz8_3, H', ⟨by first | omega | exact Nat.le_refl _⟩, ⟨by repeat (first | (with_reducible first | exact HB.out | apply below_alloc | apply pw_below_drewN | apply below_drew1) | exact HB.out)⟩⟩
   ·rw [if_neg c6] at H
    have c6b0 : ((l1.length : Int) == 0) = false := beq_eq_false_iff_ne.mpr c6
    have c6b1 : ((l1.length : Int) != 0) = true := bne_iff_ne.mpr c6
    have c6b2 : ¬ (l1 = []) := fun h_ => c6 (by rw [h_]; rfl)
    (first | rw [c6b0] | (simp only [i64_w, i32_w]; rw [c6b0]) | skip)
    have H' := Aside0.mk H
    clear H
    go_wp2_with (first | ((with_reducible refine gate_callee (f := 86) rfl ?_); refine goesL_ (some 12) rfl rfl Try.func86 (by kernel_rfl) rfl #[.slice A0 l0.length c0] rfl kz8_2 ?_; (with_reducible refine (tumbrelref09_Formed.calls k _ _ l0 true _ ?side1 ?side2 A4.out).mono ?_); (case side1 => repeat (first | exact (Kd.C_below HR0.out HB.out) | (with_reducible refine Kd.C_alloc ?_ _) | (with_reducible refine Kd.C_drewN ?_ _) | (with_reducible refine Kd.C_drew ?_))); (case side2 => exact HC0.out); rintro e w' ⟨rfl, ⟨nd, rfl⟩⟩; refine ⟨_, rfl, ?_⟩))
    go_meet
    case rel => exact ⟨_, (decide ((l1.length : Int) > (l0.length : Int))), kz8_3, H', ⟨by first | omega | exact Nat.le_refl _⟩, ⟨by repeat (first | (with_reducible first | exact HB.out | apply below_alloc | apply pw_below_drewN | apply below_drew1) | exact HB.out)⟩⟩
  ·replace c5 := Bool.eq_false_iff.mpr c5
   subst c5
   have H1 : (tumbrelref09_Legal.j0 k l0 l1 true) = some r := by rw [if_neg (show ¬ (false = true) by decide)] at H; exact H
   clear H
   have H := H1
   clear H1
   have H' := Aside0.mk H
   clear H
   go_wp2_with (first | ((with_reducible refine gate_callee (f := 86) rfl ?_); refine goesL_ (some 12) rfl rfl Try.func86 (by kernel_rfl) rfl #[.slice A0 l0.length c0] rfl kz8_2 ?_; (with_reducible refine (tumbrelref09_Formed.calls k _ _ l0 false _ ?side1 ?side2 A4.out).mono ?_); (case side1 => repeat (first | exact (Kd.C_below HR0.out HB.out) | (with_reducible refine Kd.C_alloc ?_ _) | (with_reducible refine Kd.C_drewN ?_ _) | (with_reducible refine Kd.C_drew ?_))); (case side2 => exact HC0.out); rintro e w' ⟨rfl, ⟨nd, rfl⟩⟩; refine ⟨_, rfl, ?_⟩))
   go_meet
   case rel => exact ⟨_, (true), kz8_3, H', ⟨by first | omega | exact Nat.le_refl _⟩, ⟨by repeat (first | (with_reducible first | exact HB.out | apply below_alloc | apply pw_below_drewN | apply below_drew1) | exact HB.out)⟩⟩
 case rest =>
  clear HC3
  try clear c1
  try clear p2
  try clear c4
  try clear c5
  try clear c6
  try clear c6b0
  try clear c6b1
  try clear c6b2
  obtain ⟨kq, x25_2, rfl, HA, HJ2, HB⟩ := hcut
  cases kq with
  | zero => exact absurd HA.out (by simp [tumbrelref09_Legal.j0])
  | succ kj2 =>
   have H := HA.out
   clear HA
   simp only [tumbrelref09_Legal.j0] at H
   by_cases c7 : x25_2 = true
   ·subst c7
    have H1 : (some false) = some r := by rw [if_pos rfl] at H; exact H
    clear H
    have H := H1
    clear H1
    obtain rfl := Option.some.inj H
    go_wp2
    go_ret
    exact ⟨by first | rfl | (simp [errW_none, errW_some] <;> rfl) | (simp [*, errW_none, errW_some] <;> rfl), by repeat (first | (with_reducible first | exact HB.out | apply below_alloc | apply pw_below_drewN | apply below_drew1) | exact HB.out)⟩
   ·replace c7 := Bool.eq_false_iff.mpr c7
    subst c7
    have H1 : (tumbrelref09_Legal.l0 kj2 l0 l1 (l1.length : Int) 0) = some r := by rw [if_neg (show ¬ (false = true) by decide)] at H; exact H
    clear H
    have H := H1
    clear H1
    have H' := Aside0.mk H
    clear H
    go_wp2
    go_loopg [28] kj2 (fun kq v28 w' => ∃ (x28_2 : Int), v28 = .int .i64 x28_2 ∧ Aside0 (tumbrelref09_Legal.l0 kq l0 l1 (l1.length : Int) x28_2 = some r) ∧ Aside0 (kq ≤ kj2) ∧ Aside0 (Below w.heap.size w w'))
    case atStart => exact ⟨(0), kz8_3, H', ⟨Nat.le_refl _⟩, ⟨by repeat (first | (with_reducible first | exact HB.out | apply below_alloc | apply pw_below_drewN | apply below_drew1) | exact HB.out)⟩⟩
    case round =>
     clear H'
     try clear c1
     try clear p2
     try clear c4
     try clear c5
     try clear c6
     try clear c6b0
     try clear c6b1
     try clear c6b2
     try clear c7
     try clear p2
     obtain ⟨x28_2, rfl, HA, HK2, HB⟩ := hrel
     cases gk with
     | zero => exact absurd HA.out (by simp [tumbrelref09_Legal.l0])
     | succ k2 =>
      have H := HA.out
      clear HA
      simp only [tumbrelref09_Legal.l0] at H
      by_cases c8 : x28_2 < (l1.length : Int)
      ·rw [if_pos c8] at H
       have c8b0 : decide (x28_2 < (l1.length : Int)) = true := decide_eq_true c8
       clear c8
       by_cases c9 : 0 ≤ x28_2
       ·rw [if_pos c9] at H
        have c9b0 : decide (0 ≤ x28_2) = true := decide_eq_true c9
        clear c9
        by_cases c10 : x28_2 < (l1.length : Int)
        ·rw [if_pos c10] at H
         have c10b0 : decide (x28_2 < (l1.length : Int)) = true := decide_eq_true c10
         clear c10
         replace H := Option.bind_eq_some_iff.mp H
         obtain ⟨t186, A110, H⟩ := H
         replace H : (if t186 = true then (if x28_2 > 0 then (if 0 ≤ (wrap64 (x28_2 - 1)) then (if (wrap64 (x28_2 - 1)) < (l1.length : Int) then (if (rd l1 (wrap64 (x28_2 - 1))) ≥ (rd l1 x28_2) then (some false) else (if 0 ≤ (rd l1 x28_2) then (if (rd l1 x28_2) < (l0.length : Int) then (if ((rd_T140 l0 (rd l1 x28_2)).f1) ≥ 0 then ((tumbrelref09_has.f k2 l1 ((rd_T140 l0 (rd l1 x28_2)).f1)).bind fun t193 => (if t193 = true then (tumbrelref09_Legal.l0 k2 l0 l1 (l1.length : Int) (wrap64 (x28_2 + 1))) else (some false))) else (tumbrelref09_Legal.l0 k2 l0 l1 (l1.length : Int) (wrap64 (x28_2 + 1)))) else (none)) else (none))) else (none)) else (none)) else (if 0 ≤ (rd l1 x28_2) then (if (rd l1 x28_2) < (l0.length : Int) then (if ((rd_T140 l0 (rd l1 x28_2)).f1) ≥ 0 then ((tumbrelref09_has.f k2 l1 ((rd_T140 l0 (rd l1 x28_2)).f1)).bind fun t198 => (if t198 = true then (tumbrelref09_Legal.l0 k2 l0 l1 (l1.length : Int) (wrap64 (x28_2 + 1))) else (some false))) else (tumbrelref09_Legal.l0 k2 l0 l1 (l1.length : Int) (wrap64 (x28_2 + 1)))) else (none)) else (none))) else (some false)) = some r := H
         have A11 := Aside0.mk A110
         clear A110
         by_cases c12 : t186 = true
         ·subst c12
          have H1 : (if x28_2 > 0 then (if 0 ≤ (wrap64 (x28_2 - 1)) then (if (wrap64 (x28_2 - 1)) < (l1.length : Int) then (if (rd l1 (wrap64 (x28_2 - 1))) ≥ (rd l1 x28_2) then (some false) else (if 0 ≤ (rd l1 x28_2) then (if (rd l1 x28_2) < (l0.length : Int) then (if ((rd_T140 l0 (rd l1 x28_2)).f1) ≥ 0 then ((tumbrelref09_has.f k2 l1 ((rd_T140 l0 (rd l1 x28_2)).f1)).bind fun t193 => (if t193 = true then (tumbrelref09_Legal.l0 k2 l0 l1 (l1.length : Int) (wrap64 (x28_2 + 1))) else (some false))) else (tumbrelref09_Legal.l0 k2 l0 l1 (l1.length : Int) (wrap64 (x28_2 + 1)))) else (none)) else (none))) else (none)) else (none)) else (if 0 ≤ (rd l1 x28_2) then (if (rd l1 x28_2) < (l0.length : Int) then (if ((rd_T140 l0 (rd l1 x28_2)).f1) ≥ 0 then ((tumbrelref09_has.f k2 l1 ((rd_T140 l0 (rd l1 x28_2)).f1)).bind fun t198 => (if t198 = true then (tumbrelref09_Legal.l0 k2 l0 l1 (l1.length : Int) (wrap64 (x28_2 + 1))) else (some false))) else (tumbrelref09_Legal.l0 k2 l0 l1 (l1.length : Int) (wrap64 (x28_2 + 1)))) else (none)) else (none))) = some r := by rw [if_pos rfl] at H; exact H
          clear H
          have H := H1
          clear H1
          by_cases c13 : x28_2 > 0
          ·rw [if_pos c13] at H
           have c13b0 : decide (0 < x28_2) = true := decide_eq_true c13
           clear c13
           obtain ⟨ji14, hji14⟩ : ∃ j_ : Int, (wrap64 (x28_2 - 1)) = j_ := ⟨_, rfl⟩
           replace H : (if 0 ≤ (ji14) then (if (ji14) < (l1.length : Int) then (if (rd l1 (ji14)) ≥ (rd l1 x28_2) then (some false) else (if 0 ≤ (rd l1 x28_2) then (if (rd l1 x28_2) < (l0.length : Int) then (if ((rd_T140 l0 (rd l1 x28_2)).f1) ≥ 0 then ((tumbrelref09_has.f k2 l1 ((rd_T140 l0 (rd l1 x28_2)).f1)).bind fun t193 => (if t193 = true then (tumbrelref09_Legal.l0 k2 l0 l1 (l1.length : Int) (wrap64 (x28_2 + 1))) else (some false))) else (tumbrelref09_Legal.l0 k2 l0 l1 (l1.length : Int) (wrap64 (x28_2 + 1)))) else (none)) else (none))) else (none)) else (none)) = some r := by first | (rw [hji14] at H; exact H) | (simp only [hji14] at H ⊢; exact H)
           (try rw [hji14] at A11)
           have hji14w : (IntKind.i64.wrap (x28_2 - 1)) = ji14 := (i64_w _).trans hji14
           by_cases c15 : 0 ≤ (ji14)
           ·rw [if_pos c15] at H
            have c15b0 : decide (0 ≤ (ji14)) = true := decide_eq_true c15
            clear c15
            by_cases c16 : (ji14) < (l1.length : Int)
            ·rw [if_pos c16] at H
             have c16b0 : decide ((ji14) < (l1.length : Int)) = true := decide_eq_true c16
             clear c16
             by_cases c17 : (rd l1 (ji14)) ≥ (rd l1 x28_2)
             ·rw [if_pos c17] at H
              have c17b0 : decide ((rd l1 x28_2) ≤ (rd l1 (ji14))) = true := decide_eq_true c17
              clear c17
              obtain rfl := Option.some.inj H
              try go_wp2
              have n0_ := Aside0.mk (below_drew1 HB.out)
              clear HB
              have HB := n0_
              clear n0_
              have p185 : 0 ≤ (x28_2 : Int) := of_decide_eq_true kz8_1
              have q185 : x28_2 < (l1.length : Int) := of_decide_eq_true kz8_1
              obtain ⟨ad185, e185, hx185_0⟩ := Kd.at_int HR1.out x28_2 p185 q185
              have hw185_0 := hx185_0
              cases e185
              replace hx185_0 := (HB.out.cell (World.block_lt_of_cell? w _ hx185_0)).trans hx185_0
              replace p185 := eq_true p185
              replace q185 := eq_true q185
              have p187 : 0 ≤ ((ji14) : Int) := of_decide_eq_true kz8_1
              have q187 : (ji14) < (l1.length : Int) := of_decide_eq_true kz8_1
              obtain ⟨ad187, e187, hx187_0⟩ := Kd.at_int HR1.out (ji14) p187 q187
              have hw187_0 := hx187_0
              obtain rfl : ad185 = ad187 := (by injection e187)
              replace hx187_0 := (HB.out.cell (World.block_lt_of_cell? w _ hx187_0)).trans hx187_0
              replace p187 := eq_true p187
              replace q187 := eq_true q187
              have p188 : 0 ≤ (x28_2 : Int) := of_decide_eq_true kz8_1
              have q188 : x28_2 < (l1.length : Int) := of_decide_eq_true kz8_1
              obtain ⟨ad188, e188, hx188_0⟩ := Kd.at_int HR1.out x28_2 p188 q188
              have hw188_0 := hx188_0
              obtain rfl : ad185 = ad188 := (by injection e188)
              replace hx188_0 := (HB.out.cell (World.block_lt_of_cell? w _ hx188_0)).trans hx188_0
              replace p188 := eq_true p188
              replace q188 := eq_true q188
              refine start_ (n := 47) (S := fun w' => w'.cell? (ad185.add (x28_2).toNat) = some (.int .i64 (rd l1 x28_2)) ∧ w'.cell? (ad185.add ((ji14)).toNat) = some (.int .i64 (rd l1 (ji14))) ∧ w'.cell? (ad185.add (x28_2).toNat) = some (.int .i64 (rd l1 x28_2))) (ds := []) #[false, false, false, false, false, false, false, false, false, false, false, false, false, false, false, false, false, false, false, false, false, false, false, false, false, false, false, false, false, false, false, false, false, false, false, false, false, false, false, false, false, false, false, false, false, false, false] (by kernel_rfl) rfl rfl ⟨((HB.out.cell (World.block_lt_of_cell? w _ hw185_0)).trans hw185_0), ((HB.out.cell (World.block_lt_of_cell? w _ hw187_0)).trans hw187_0), ((HB.out.cell (World.block_lt_of_cell? w _ hw188_0)).trans hw188_0)⟩ (fun hHeld => ?_); refine with_tabW tumbrelref09_Legal.tab6 tumbrelref09_Legal.bits6 (fun HT_ HW_ => ?_)
              generalize wr.drew = w18 at HB hx185_0 hx187_0 hx188_0 hHeld ⊢
              refine pz_ 0 (some 31) (dA_ 47 1) HT_ (h := ?_)
              refine pz_ 1 (some 32) (dA_ 47 3) HT_ (h := ?_)
              refine pz_ 2 (some 33) (dA_ 47 7) HT_ (h := ?_)
              refine pz_ 3 (some 34) (dA_ 47 15) HT_ (h := ?_)
              refine take_ (i := 4) (N := some 35) (v := ?_) (a' := ?_) (dA_ 47 31) rfl rfl (take_ofW HT_.out HW_.out (by kernel_rfl)) (fun _ _ _ h => h) (Or.inl ⟨by rfl, ?_⟩) hHeld ?_ ?_
              rotate_left
              ·rintro w' ⟨s0, s1, s2⟩
               go_simp
               with_reducible rfl
              rotate_left
              ·simp only [Act.put, List.setIfInBounds_toArray, List.set_cons_zero, List.set_cons_succ, i64_w, i32_w]
               rfl
              refine one_ (i := 5) (N := some 36) (dA_ 47 63) rfl rfl (one_of HT_.out (by kernel_rfl)) (by decide) (fun K hK => ?_)
              refine goes_ Try.func87 (by kernel_rfl) rfl #[.slice A0 l0.length c0, .int .i64 (rd l1 x28_2)] (by rfl) rfl rfl kz8_2 ?_
              with_reducible refine (tumbrelref09_state.calls _ _ l0 (rd l1 x28_2) true _ ?side1 ?side2 A11.out).mono ?_
              (case side1 => repeat (first | exact (Kd.C_below HR0.out HB.out) | (with_reducible refine Kd.C_alloc ?_ _) | (with_reducible refine Kd.C_drewN ?_ _) | (with_reducible refine Kd.C_drew ?_)))
              (case side2 => exact HC0.out)
              rintro e w' ⟨rfl, ⟨nd, rfl⟩⟩
              refine ⟨_, rfl, ?_⟩
              refine hK.out _ _ ⟨((HB.out.cell (World.block_lt_of_cell? w _ hw185_0)).trans hw185_0), ((HB.out.cell (World.block_lt_of_cell? w _ hw187_0)).trans hw187_0), ((HB.out.cell (World.block_lt_of_cell? w _ hw188_0)).trans hw188_0)⟩ (fun hHeld => ?_)
              clear hK K
              refine norm_ (a' := ?_) ?_ ?_
              rotate_left
              ·show Act.put _ (some 36) _ = _
               simp only [Act.put, List.setIfInBounds_toArray, List.set_cons_zero, List.set_cons_succ, i64_w, i32_w]
               rfl
              refine pz_ 6 (some 37) (dA_ 47 127) HT_ (h := ?_)
              refine pz_ 7 (some 38) (dA_ 47 255) HT_ (h := ?_)
              refine pz_ 8 (some 39) (dA_ 47 511) HT_ (h := ?_)
              refine pz_ 9 (some 40) (dA_ 47 1023) HT_ (h := ?_)
              refine pz_ 10 (some 41) (dA_ 47 2047) HT_ (h := ?_)
              refine pz_ 11 (some 42) (dA_ 47 4095) HT_ (h := ?_)
              refine pz_ 12 (some 43) (dA_ 47 8191) HT_ (h := ?_)
              refine pz_ 13 (some 44) (dA_ 47 16383) HT_ (h := ?_)
              refine pz_ 14 (some 45) (dA_ 47 32767) HT_ (h := ?_)
              refine pz_ 16 (some 47) (dA_ 47 98303) HT_ (h := ?_)
              refine pz_ 17 (some 48) (dA_ 47 229375) HT_ (h := ?_)
              refine pz_ 18 (some 49) (dA_ 47 491519) HT_ (h := ?_)
              refine take_ (i := 15) (N := some 46) (v := ?_) (a' := ?_) (dA_ 47 524287) rfl rfl (take_ofW HT_.out HW_.out (by kernel_rfl)) (fun _ _ _ h => h) (Or.inl ⟨by rfl, ?_⟩) hHeld ?_ ?_
              rotate_left
              ·rintro w' ⟨s0, s1, s2⟩
               go_simp
               with_reducible rfl
              rotate_left
              ·simp only [Act.put, List.setIfInBounds_toArray, List.set_cons_zero, List.set_cons_succ, i64_w, i32_w]
               rfl
              refine take_ (i := 19) (N := some 50) (v := ?_) (a' := ?_) (dA_ 47 1048575) rfl rfl (take_ofW HT_.out HW_.out (by kernel_rfl)) (fun _ _ _ h => h) (Or.inl ⟨by rfl, ?_⟩) hHeld ?_ ?_
              rotate_left
              ·rintro w' ⟨s0, s1, s2⟩
               go_simp
               with_reducible rfl
              rotate_left
              ·simp only [Act.put, List.setIfInBounds_toArray, List.set_cons_zero, List.set_cons_succ, i64_w, i32_w]
               rfl
              refine pz_ 20 (some 51) (dA_ 47 2097151) HT_ (h := ?_)
              refine pz_ 21 (some 52) (dA_ 47 4194303) HT_ (h := ?_)
              refine pz_ 22 (some 53) (dA_ 47 8388607) HT_ (h := ?_)
              refine pz_ 23 (some 54) (dA_ 47 16777215) HT_ (h := ?_)
              refine pu_ 24 (some 55) (dA_ 47 33554431) HT_ (h := ?_)
              refine pu_ 25 (some 56) (dA_ 47 67108863) HT_ (h := ?_)
              refine pu_ 26 (some 57) (dA_ 47 134217727) HT_ (h := ?_)
              refine pu_ 27 (some 58) (dA_ 47 268435455) HT_ (h := ?_)
              refine pu_ 28 (some 59) (dA_ 47 536870911) HT_ (h := ?_)
              refine pu_ 29 (some 60) (dA_ 47 1073741823) HT_ (h := ?_)
              refine pu_ 30 (some 61) (dA_ 47 2147483647) HT_ (h := ?_)
              refine pu_ 31 (some 62) (dA_ 47 4294967295) HT_ (h := ?_)
              refine pu_ 32 (some 63) (dA_ 47 8589934591) HT_ (h := ?_)
              refine pu_ 33 (some 64) (dA_ 47 17179869183) HT_ (h := ?_)
              refine pu_ 34 (some 65) (dA_ 47 34359738367) HT_ (h := ?_)
              refine pu_ 35 (some 66) (dA_ 47 68719476735) HT_ (h := ?_)
              refine pu_ 36 (some 67) (dA_ 47 137438953471) HT_ (h := ?_)
              refine pu_ 37 (some 68) (dA_ 47 274877906943) HT_ (h := ?_)
              refine pu_ 38 (some 69) (dA_ 47 549755813887) HT_ (h := ?_)
              refine pu_ 39 (some 70) (dA_ 47 1099511627775) HT_ (h := ?_)
              refine pu_ 40 (some 71) (dA_ 47 2199023255551) HT_ (h := ?_)
              refine pu_ 41 (some 72) (dA_ 47 4398046511103) HT_ (h := ?_)
              refine pu_ 42 (some 73) (dA_ 47 8796093022207) HT_ (h := ?_)
              refine pu_ 43 (some 74) (dA_ 47 17592186044415) HT_ (h := ?_)
              refine pu_ 44 (some 75) (dA_ 47 35184372088831) HT_ (h := ?_)
              refine pu_ 45 (some 76) (dA_ 47 70368744177663) HT_ (h := ?_)
              refine pz_ 46 (some 77) (dA_ 47 140737488355327) HT_ (h := ?_)
              refine done_ (done_of HT_.out (by kernel_rfl)) ?_
              try go_wp2
              go_ret
              exact ⟨by first | rfl | (simp [errW_none, errW_some] <;> rfl) | (simp only [← hji14]; first | rfl | (simp [errW_none, errW_some] <;> rfl)) | (simp [*, errW_none, errW_some] <;> rfl), by repeat (first | (with_reducible first | exact HB.out | apply below_alloc | apply pw_below_drewN | apply below_drew1) | exact HB.out)⟩
             ·rw [if_neg c17] at H
              have c17b0 : decide ((rd l1 x28_2) ≤ (rd l1 (ji14))) = false := decide_eq_false c17
              clear c17
              by_cases c19 : 0 ≤ (rd l1 x28_2)
              ·rw [if_pos c19] at H
               have c19b0 : decide (0 ≤ (rd l1 x28_2)) = true := decide_eq_true c19
               clear c19
               by_cases c20 : (rd l1 x28_2) < (l0.length : Int)
               ·rw [if_pos c20] at H
                have c20b0 : decide ((rd l1 x28_2) < (l0.length : Int)) = true := decide_eq_true c20
                clear c20
                by_cases c21 : ((rd_T140 l0 (rd l1 x28_2)).f1) ≥ 0
                ·rw [if_pos c21] at H
                 have c21b0 : decide (0 ≤ ((rd_T140 l0 (rd l1 x28_2)).f1)) = true := decide_eq_true c21
                 clear c21
                 replace H := Option.bind_eq_some_iff.mp H
                 obtain ⟨t193, A220, H⟩ := H
                 replace H : (if t193 = true then (tumbrelref09_Legal.l0 k2 l0 l1 (l1.length : Int) (wrap64 (x28_2 + 1))) else (some false)) = some r := H
                 have A22 := Aside0.mk A220
                 clear A220
                 by_cases c23 : t193 = true
                 ·subst c23
                  have H1 : (tumbrelref09_Legal.l0 k2 l0 l1 (l1.length : Int) (wrap64 (x28_2 + 1))) = some r := by rw [if_pos rfl] at H; exact H
                  clear H
                  have H := H1
                  clear H1
                  have H' := Aside0.mk H
                  clear H
                  try go_wp2
                  have n0_ := Aside0.mk (below_drew1 HB.out)
                  clear HB
                  have HB := n0_
                  clear n0_
                  have p185 : 0 ≤ (x28_2 : Int) := of_decide_eq_true kz8_1
                  have q185 : x28_2 < (l1.length : Int) := of_decide_eq_true kz8_1
                  obtain ⟨ad185, e185, hx185_0⟩ := Kd.at_int HR1.out x28_2 p185 q185
                  have hw185_0 := hx185_0
                  cases e185
                  replace hx185_0 := (HB.out.cell (World.block_lt_of_cell? w _ hx185_0)).trans hx185_0
                  replace p185 := eq_true p185
                  replace q185 := eq_true q185
                  have p187 : 0 ≤ ((ji14) : Int) := of_decide_eq_true kz8_1
                  have q187 : (ji14) < (l1.length : Int) := of_decide_eq_true kz8_1
                  obtain ⟨ad187, e187, hx187_0⟩ := Kd.at_int HR1.out (ji14) p187 q187
                  have hw187_0 := hx187_0
                  obtain rfl : ad185 = ad187 := (by injection e187)
                  replace hx187_0 := (HB.out.cell (World.block_lt_of_cell? w _ hx187_0)).trans hx187_0
                  replace p187 := eq_true p187
                  replace q187 := eq_true q187
                  have p188 : 0 ≤ (x28_2 : Int) := of_decide_eq_true kz8_1
                  have q188 : x28_2 < (l1.length : Int) := of_decide_eq_true kz8_1
                  obtain ⟨ad188, e188, hx188_0⟩ := Kd.at_int HR1.out x28_2 p188 q188
                  have hw188_0 := hx188_0
                  obtain rfl : ad185 = ad188 := (by injection e188)
                  replace hx188_0 := (HB.out.cell (World.block_lt_of_cell? w _ hx188_0)).trans hx188_0
                  replace p188 := eq_true p188
                  replace q188 := eq_true q188
                  have p189 : 0 ≤ (x28_2 : Int) := of_decide_eq_true kz8_1
                  have q189 : x28_2 < (l1.length : Int) := of_decide_eq_true kz8_1
                  obtain ⟨ad189, e189, hx189_0⟩ := Kd.at_int HR1.out x28_2 p189 q189
                  have hw189_0 := hx189_0
                  obtain rfl : ad185 = ad189 := (by injection e189)
                  replace hx189_0 := (HB.out.cell (World.block_lt_of_cell? w _ hx189_0)).trans hx189_0
                  replace p189 := eq_true p189
                  replace q189 := eq_true q189
                  have p190 : 0 ≤ ((rd l1 x28_2) : Int) := of_decide_eq_true kz8_1
                  have q190 : (rd l1 x28_2) < (l0.length : Int) := of_decide_eq_true kz8_1
                  obtain ⟨ad190, e190, hx190_0, hx190_1, hx190_2, hx190_3, hx190_4, hx190_5, hx190_6⟩ := at_T140 HR0.out (rd l1 x28_2) p190 q190
                  have hw190_6 := hx190_6
                  have hw190_5 := hx190_5
                  have hw190_4 := hx190_4
                  have hw190_3 := hx190_3
                  have hw190_2 := hx190_2
                  have hw190_1 := hx190_1
                  have hw190_0 := hx190_0
                  cases e190
                  replace hx190_0 := (HB.out.cell (World.block_lt_of_cell? w _ hx190_0)).trans hx190_0
                  replace hx190_1 := (HB.out.cell (World.block_lt_of_cell? w _ hx190_1)).trans hx190_1
                  replace hx190_2 := (HB.out.cell (World.block_lt_of_cell? w _ hx190_2)).trans hx190_2
                  replace hx190_3 := (HB.out.cell (World.block_lt_of_cell? w _ hx190_3)).trans hx190_3
                  replace hx190_4 := (HB.out.cell (World.block_lt_of_cell? w _ hx190_4)).trans hx190_4
                  replace hx190_5 := (HB.out.cell (World.block_lt_of_cell? w _ hx190_5)).trans hx190_5
                  replace hx190_6 := (HB.out.cell (World.block_lt_of_cell? w _ hx190_6)).trans hx190_6
                  replace p190 := eq_true p190
                  replace q190 := eq_true q190
                  have p191 : 0 ≤ (x28_2 : Int) := of_decide_eq_true kz8_1
                  have q191 : x28_2 < (l1.length : Int) := of_decide_eq_true kz8_1
                  obtain ⟨ad191, e191, hx191_0⟩ := Kd.at_int HR1.out x28_2 p191 q191
                  have hw191_0 := hx191_0
                  obtain rfl : ad185 = ad191 := (by injection e191)
                  replace hx191_0 := (HB.out.cell (World.block_lt_of_cell? w _ hx191_0)).trans hx191_0
                  replace p191 := eq_true p191
                  replace q191 := eq_true q191
                  have p192 : 0 ≤ ((rd l1 x28_2) : Int) := of_decide_eq_true kz8_1
                  have q192 : (rd l1 x28_2) < (l0.length : Int) := of_decide_eq_true kz8_1
                  obtain ⟨ad192, e192, hx192_0, hx192_1, hx192_2, hx192_3, hx192_4, hx192_5, hx192_6⟩ := at_T140 HR0.out (rd l1 x28_2) p192 q192
                  have hw192_6 := hx192_6
                  have hw192_5 := hx192_5
                  have hw192_4 := hx192_4
                  have hw192_3 := hx192_3
                  have hw192_2 := hx192_2
                  have hw192_1 := hx192_1
                  have hw192_0 := hx192_0
                  obtain rfl : ad190 = ad192 := (by injection e192)
                  replace hx192_0 := (HB.out.cell (World.block_lt_of_cell? w _ hx192_0)).trans hx192_0
                  replace hx192_1 := (HB.out.cell (World.block_lt_of_cell? w _ hx192_1)).trans hx192_1
                  replace hx192_2 := (HB.out.cell (World.block_lt_of_cell? w _ hx192_2)).trans hx192_2
                  replace hx192_3 := (HB.out.cell (World.block_lt_of_cell? w _ hx192_3)).trans hx192_3
                  replace hx192_4 := (HB.out.cell (World.block_lt_of_cell? w _ hx192_4)).trans hx192_4
                  replace hx192_5 := (HB.out.cell (World.block_lt_of_cell? w _ hx192_5)).trans hx192_5
                  replace hx192_6 := (HB.out.cell (World.block_lt_of_cell? w _ hx192_6)).trans hx192_6
                  replace p192 := eq_true p192
                  replace q192 := eq_true q192
                  refine start_ (n := 47) (S := fun w' => w'.cell? (ad185.add (x28_2).toNat) = some (.int .i64 (rd l1 x28_2)) ∧ w'.cell? (ad185.add ((ji14)).toNat) = some (.int .i64 (rd l1 (ji14))) ∧ w'.cell? (ad185.add (x28_2).toNat) = some (.int .i64 (rd l1 x28_2)) ∧ w'.cell? (ad185.add (x28_2).toNat) = some (.int .i64 (rd l1 x28_2)) ∧ w'.cell? (ad190.add (((rd l1 x28_2)).toNat * 7)) = some (.string ((rd_T140 l0 (rd l1 x28_2)).f0)) ∧ w'.cell? ⟨(ad190.add (((rd l1 x28_2)).toNat * 7)).block, (ad190.add (((rd l1 x28_2)).toNat * 7)).off + 1, none⟩ = some (.int .i64 ((rd_T140 l0 (rd l1 x28_2)).f1)) ∧ w'.cell? ⟨(ad190.add (((rd l1 x28_2)).toNat * 7)).block, (ad190.add (((rd l1 x28_2)).toNat * 7)).off + 2, none⟩ = some (.int .i64 ((rd_T140 l0 (rd l1 x28_2)).f2)) ∧ w'.cell? ⟨(ad190.add (((rd l1 x28_2)).toNat * 7)).block, (ad190.add (((rd l1 x28_2)).toNat * 7)).off + 3, none⟩ = some (.int .i64 ((rd_T140 l0 (rd l1 x28_2)).f3)) ∧ w'.cell? ⟨(ad190.add (((rd l1 x28_2)).toNat * 7)).block, (ad190.add (((rd l1 x28_2)).toNat * 7)).off + 4, none⟩ = some (.bool ((rd_T140 l0 (rd l1 x28_2)).f4)) ∧ w'.cell? ⟨(ad190.add (((rd l1 x28_2)).toNat * 7)).block, (ad190.add (((rd l1 x28_2)).toNat * 7)).off + 5, none⟩ = some (.bool ((rd_T140 l0 (rd l1 x28_2)).f5)) ∧ w'.cell? ⟨(ad190.add (((rd l1 x28_2)).toNat * 7)).block, (ad190.add (((rd l1 x28_2)).toNat * 7)).off + 6, none⟩ = some (.bool ((rd_T140 l0 (rd l1 x28_2)).f6)) ∧ w'.cell? (ad185.add (x28_2).toNat) = some (.int .i64 (rd l1 x28_2)) ∧ w'.cell? (ad190.add (((rd l1 x28_2)).toNat * 7)) = some (.string ((rd_T140 l0 (rd l1 x28_2)).f0)) ∧ w'.cell? ⟨(ad190.add (((rd l1 x28_2)).toNat * 7)).block, (ad190.add (((rd l1 x28_2)).toNat * 7)).off + 1, none⟩ = some (.int .i64 ((rd_T140 l0 (rd l1 x28_2)).f1)) ∧ w'.cell? ⟨(ad190.add (((rd l1 x28_2)).toNat * 7)).block, (ad190.add (((rd l1 x28_2)).toNat * 7)).off + 2, none⟩ = some (.int .i64 ((rd_T140 l0 (rd l1 x28_2)).f2)) ∧ w'.cell? ⟨(ad190.add (((rd l1 x28_2)).toNat * 7)).block, (ad190.add (((rd l1 x28_2)).toNat * 7)).off + 3, none⟩ = some (.int .i64 ((rd_T140 l0 (rd l1 x28_2)).f3)) ∧ w'.cell? ⟨(ad190.add (((rd l1 x28_2)).toNat * 7)).block, (ad190.add (((rd l1 x28_2)).toNat * 7)).off + 4, none⟩ = some (.bool ((rd_T140 l0 (rd l1 x28_2)).f4)) ∧ w'.cell? ⟨(ad190.add (((rd l1 x28_2)).toNat * 7)).block, (ad190.add (((rd l1 x28_2)).toNat * 7)).off + 5, none⟩ = some (.bool ((rd_T140 l0 (rd l1 x28_2)).f5)) ∧ w'.cell? ⟨(ad190.add (((rd l1 x28_2)).toNat * 7)).block, (ad190.add (((rd l1 x28_2)).toNat * 7)).off + 6, none⟩ = some (.bool ((rd_T140 l0 (rd l1 x28_2)).f6))) (ds := []) #[false, false, false, false, false, false, false, false, false, false, false, false, false, false, false, false, false, false, false, false, false, false, false, false, false, false, false, false, false, false, false, false, false, false, false, false, false, false, false, false, false, false, false, false, false, false, false] (by kernel_rfl) rfl rfl ⟨((HB.out.cell (World.block_lt_of_cell? w _ hw185_0)).trans hw185_0), ((HB.out.cell (World.block_lt_of_cell? w _ hw187_0)).trans hw187_0), ((HB.out.cell (World.block_lt_of_cell? w _ hw188_0)).trans hw188_0), ((HB.out.cell (World.block_lt_of_cell? w _ hw189_0)).trans hw189_0), ((HB.out.cell (World.block_lt_of_cell? w _ hw190_0)).trans hw190_0), ((HB.out.cell (World.block_lt_of_cell? w _ hw190_1)).trans hw190_1), ((HB.out.cell (World.block_lt_of_cell? w _ hw190_2)).trans hw190_2), ((HB.out.cell (World.block_lt_of_cell? w _ hw190_3)).trans hw190_3), ((HB.out.cell (World.block_lt_of_cell? w _ hw190_4)).trans hw190_4), ((HB.out.cell (World.block_lt_of_cell? w _ hw190_5)).trans hw190_5), ((HB.out.cell (World.block_lt_of_cell? w _ hw190_6)).trans hw190_6), ((HB.out.cell (World.block_lt_of_cell? w _ hw191_0)).trans hw191_0), ((HB.out.cell (World.block_lt_of_cell? w _ hw192_0)).trans hw192_0), ((HB.out.cell (World.block_lt_of_cell? w _ hw192_1)).trans hw192_1), ((HB.out.cell (World.block_lt_of_cell? w _ hw192_2)).trans hw192_2), ((HB.out.cell (World.block_lt_of_cell? w _ hw192_3)).trans hw192_3), ((HB.out.cell (World.block_lt_of_cell? w _ hw192_4)).trans hw192_4), ((HB.out.cell (World.block_lt_of_cell? w _ hw192_5)).trans hw192_5), ((HB.out.cell (World.block_lt_of_cell? w _ hw192_6)).trans hw192_6)⟩ (fun hHeld => ?_); refine with_tabW tumbrelref09_Legal.tab6 tumbrelref09_Legal.bits6 (fun HT_ HW_ => ?_)
                  generalize wr.drew = w24 at HB hx185_0 hx187_0 hx188_0 hx189_0 hx190_0 hx190_1 hx190_2 hx190_3 hx190_4 hx190_5 hx190_6 hx191_0 hx192_0 hx192_1 hx192_2 hx192_3 hx192_4 hx192_5 hx192_6 hHeld ⊢
                  refine pz_ 0 (some 31) (dA_ 47 1) HT_ (h := ?_)
                  refine pz_ 1 (some 32) (dA_ 47 3) HT_ (h := ?_)
                  refine pz_ 2 (some 33) (dA_ 47 7) HT_ (h := ?_)
                  refine pz_ 3 (some 34) (dA_ 47 15) HT_ (h := ?_)
                  refine take_ (i := 4) (N := some 35) (v := ?_) (a' := ?_) (dA_ 47 31) rfl rfl (take_ofW HT_.out HW_.out (by kernel_rfl)) (fun _ _ _ h => h) (Or.inl ⟨by rfl, ?_⟩) hHeld ?_ ?_
                  rotate_left
                  ·rintro w' ⟨s0, s1, s2, s3, s4, s5, s6, s7, s8, s9, s10, s11, s12, s13, s14, s15, s16, s17, s18⟩
                   go_simp
                   with_reducible rfl
                  rotate_left
                  ·simp only [Act.put, List.setIfInBounds_toArray, List.set_cons_zero, List.set_cons_succ, i64_w, i32_w]
                   rfl
                  refine one_ (i := 5) (N := some 36) (dA_ 47 63) rfl rfl (one_of HT_.out (by kernel_rfl)) (by decide) (fun K hK => ?_)
                  refine goes_ Try.func87 (by kernel_rfl) rfl #[.slice (some ad190) l0.length c0, .int .i64 (rd l1 x28_2)] (by rfl) rfl rfl kz8_2 ?_
                  with_reducible refine (tumbrelref09_state.calls _ _ l0 (rd l1 x28_2) true _ ?side1 ?side2 A11.out).mono ?_
                  (case side1 => repeat (first | exact (Kd.C_below HR0.out HB.out) | (with_reducible refine Kd.C_alloc ?_ _) | (with_reducible refine Kd.C_drewN ?_ _) | (with_reducible refine Kd.C_drew ?_)))
                  (case side2 => exact HC0.out)
                  rintro e w' ⟨rfl, ⟨nd, rfl⟩⟩
                  refine ⟨_, rfl, ?_⟩
                  refine hK.out _ _ ⟨((HB.out.cell (World.block_lt_of_cell? w _ hw185_0)).trans hw185_0), ((HB.out.cell (World.block_lt_of_cell? w _ hw187_0)).trans hw187_0), ((HB.out.cell (World.block_lt_of_cell? w _ hw188_0)).trans hw188_0), ((HB.out.cell (World.block_lt_of_cell? w _ hw189_0)).trans hw189_0), ((HB.out.cell (World.block_lt_of_cell? w _ hw190_0)).trans hw190_0), ((HB.out.cell (World.block_lt_of_cell? w _ hw190_1)).trans hw190_1), ((HB.out.cell (World.block_lt_of_cell? w _ hw190_2)).trans hw190_2), ((HB.out.cell (World.block_lt_of_cell? w _ hw190_3)).trans hw190_3), ((HB.out.cell (World.block_lt_of_cell? w _ hw190_4)).trans hw190_4), ((HB.out.cell (World.block_lt_of_cell? w _ hw190_5)).trans hw190_5), ((HB.out.cell (World.block_lt_of_cell? w _ hw190_6)).trans hw190_6), ((HB.out.cell (World.block_lt_of_cell? w _ hw191_0)).trans hw191_0), ((HB.out.cell (World.block_lt_of_cell? w _ hw192_0)).trans hw192_0), ((HB.out.cell (World.block_lt_of_cell? w _ hw192_1)).trans hw192_1), ((HB.out.cell (World.block_lt_of_cell? w _ hw192_2)).trans hw192_2), ((HB.out.cell (World.block_lt_of_cell? w _ hw192_3)).trans hw192_3), ((HB.out.cell (World.block_lt_of_cell? w _ hw192_4)).trans hw192_4), ((HB.out.cell (World.block_lt_of_cell? w _ hw192_5)).trans hw192_5), ((HB.out.cell (World.block_lt_of_cell? w _ hw192_6)).trans hw192_6)⟩ (fun hHeld => ?_)
                  clear hK K
                  refine norm_ (a' := ?_) ?_ ?_
                  rotate_left
                  ·show Act.put _ (some 36) _ = _
                   simp only [Act.put, List.setIfInBounds_toArray, List.set_cons_zero, List.set_cons_succ, i64_w, i32_w]
                   rfl
                  refine pz_ 6 (some 37) (dA_ 47 127) HT_ (h := ?_)
                  refine pz_ 7 (some 38) (dA_ 47 255) HT_ (h := ?_)
                  refine pz_ 8 (some 39) (dA_ 47 511) HT_ (h := ?_)
                  refine pz_ 9 (some 40) (dA_ 47 1023) HT_ (h := ?_)
                  refine pz_ 10 (some 41) (dA_ 47 2047) HT_ (h := ?_)
                  refine pz_ 11 (some 42) (dA_ 47 4095) HT_ (h := ?_)
                  refine pz_ 12 (some 43) (dA_ 47 8191) HT_ (h := ?_)
                  refine pz_ 13 (some 44) (dA_ 47 16383) HT_ (h := ?_)
                  refine pz_ 14 (some 45) (dA_ 47 32767) HT_ (h := ?_)
                  refine pz_ 16 (some 47) (dA_ 47 98303) HT_ (h := ?_)
                  refine pz_ 17 (some 48) (dA_ 47 229375) HT_ (h := ?_)
                  refine pz_ 18 (some 49) (dA_ 47 491519) HT_ (h := ?_)
                  refine take_ (i := 15) (N := some 46) (v := ?_) (a' := ?_) (dA_ 47 524287) rfl rfl (take_ofW HT_.out HW_.out (by kernel_rfl)) (fun _ _ _ h => h) (Or.inl ⟨by rfl, ?_⟩) hHeld ?_ ?_
                  rotate_left
                  ·rintro w' ⟨s0, s1, s2, s3, s4, s5, s6, s7, s8, s9, s10, s11, s12, s13, s14, s15, s16, s17, s18⟩
                   go_simp
                   with_reducible rfl
                  rotate_left
                  ·simp only [Act.put, List.setIfInBounds_toArray, List.set_cons_zero, List.set_cons_succ, i64_w, i32_w]
                   rfl
                  refine take_ (i := 19) (N := some 50) (v := ?_) (a' := ?_) (dA_ 47 1048575) rfl rfl (take_ofW HT_.out HW_.out (by kernel_rfl)) (fun _ _ _ h => h) (Or.inl ⟨by rfl, ?_⟩) hHeld ?_ ?_
                  rotate_left
                  ·rintro w' ⟨s0, s1, s2, s3, s4, s5, s6, s7, s8, s9, s10, s11, s12, s13, s14, s15, s16, s17, s18⟩
                   go_simp
                   with_reducible rfl
                  rotate_left
                  ·simp only [Act.put, List.setIfInBounds_toArray, List.set_cons_zero, List.set_cons_succ, i64_w, i32_w]
                   rfl
                  refine pz_ 20 (some 51) (dA_ 47 2097151) HT_ (h := ?_)
                  refine pz_ 21 (some 52) (dA_ 47 4194303) HT_ (h := ?_)
                  refine pz_ 22 (some 53) (dA_ 47 8388607) HT_ (h := ?_)
                  refine pz_ 23 (some 54) (dA_ 47 16777215) HT_ (h := ?_)
                  refine pz_ 24 (some 55) (dA_ 47 33554431) HT_ (h := ?_)
                  refine pz_ 25 (some 56) (dA_ 47 67108863) HT_ (h := ?_)
                  refine pz_ 26 (some 57) (dA_ 47 134217727) HT_ (h := ?_)
                  refine pz_ 27 (some 58) (dA_ 47 268435455) HT_ (h := ?_)
                  refine take_ (i := 28) (N := some 59) (v := ?_) (a' := ?_) (dA_ 47 536870911) rfl rfl (take_ofW HT_.out HW_.out (by kernel_rfl)) (fun _ _ _ h => h) (Or.inl ⟨by rfl, ?_⟩) hHeld ?_ ?_
                  rotate_left
                  ·rintro w' ⟨s0, s1, s2, s3, s4, s5, s6, s7, s8, s9, s10, s11, s12, s13, s14, s15, s16, s17, s18⟩
                   go_simp
                   with_reducible rfl
                  rotate_left
                  ·simp only [Act.put, List.setIfInBounds_toArray, List.set_cons_zero, List.set_cons_succ, i64_w, i32_w]
                   rfl
                  refine pz_ 29 (some 60) (dA_ 47 1073741823) HT_ (h := ?_)
                  refine pz_ 30 (some 61) (dA_ 47 2147483647) HT_ (h := ?_)
                  refine take_ (i := 31) (N := some 62) (v := ?_) (a' := ?_) (dA_ 47 4294967295) rfl rfl (take_ofW HT_.out HW_.out (by kernel_rfl)) (fun _ _ _ h => h) (Or.inl ⟨by rfl, ?_⟩) hHeld ?_ ?_
                  rotate_left
                  ·rintro w' ⟨s0, s1, s2, s3, s4, s5, s6, s7, s8, s9, s10, s11, s12, s13, s14, s15, s16, s17, s18⟩
                   go_simp
                   with_reducible rfl
                  rotate_left
                  ·simp only [Act.put, List.setIfInBounds_toArray, List.set_cons_zero, List.set_cons_succ, i64_w, i32_w]
                   rfl
                  refine pz_ 32 (some 63) (dA_ 47 8589934591) HT_ (h := ?_)
                  refine pz_ 33 (some 64) (dA_ 47 17179869183) HT_ (h := ?_)
                  refine pz_ 34 (some 65) (dA_ 47 34359738367) HT_ (h := ?_)
                  refine pz_ 35 (some 66) (dA_ 47 68719476735) HT_ (h := ?_)
                  refine pz_ 36 (some 67) (dA_ 47 137438953471) HT_ (h := ?_)
                  refine pz_ 37 (some 68) (dA_ 47 274877906943) HT_ (h := ?_)
                  refine pz_ 38 (some 69) (dA_ 47 549755813887) HT_ (h := ?_)
                  refine take_ (i := 39) (N := some 70) (v := ?_) (a' := ?_) (dA_ 47 1099511627775) rfl rfl (take_ofW HT_.out HW_.out (by kernel_rfl)) (fun _ _ _ h => h) (Or.inl ⟨by rfl, ?_⟩) hHeld ?_ ?_
                  rotate_left
                  ·rintro w' ⟨s0, s1, s2, s3, s4, s5, s6, s7, s8, s9, s10, s11, s12, s13, s14, s15, s16, s17, s18⟩
                   go_simp
                   with_reducible rfl
                  rotate_left
                  ·simp only [Act.put, List.setIfInBounds_toArray, List.set_cons_zero, List.set_cons_succ, i64_w, i32_w]
                   rfl
                  refine pz_ 40 (some 71) (dA_ 47 2199023255551) HT_ (h := ?_)
                  refine pz_ 41 (some 72) (dA_ 47 4398046511103) HT_ (h := ?_)
                  refine take_ (i := 42) (N := some 73) (v := ?_) (a' := ?_) (dA_ 47 8796093022207) rfl rfl (take_ofW HT_.out HW_.out (by kernel_rfl)) (fun _ _ _ h => h) (Or.inl ⟨by rfl, ?_⟩) hHeld ?_ ?_
                  rotate_left
                  ·rintro w' ⟨s0, s1, s2, s3, s4, s5, s6, s7, s8, s9, s10, s11, s12, s13, s14, s15, s16, s17, s18⟩
                   go_simp
                   with_reducible rfl
                  rotate_left
                  ·simp only [Act.put, List.setIfInBounds_toArray, List.set_cons_zero, List.set_cons_succ, i64_w, i32_w]
                   rfl
                  refine one_ (i := 43) (N := some 74) (dA_ 47 17592186044415) rfl rfl (one_of HT_.out (by kernel_rfl)) (by decide) (fun K hK => ?_)
                  refine goes_ Try.func88 (by kernel_rfl) rfl #[.slice (some ad185) l1.length c1, .int .i64 ((rd_T140 l0 (rd l1 x28_2)).f1)] (by rfl) rfl rfl kz8_2 ?_
                  with_reducible refine (tumbrelref09_has.calls k2 _ _ l1 ((rd_T140 l0 (rd l1 x28_2)).f1) true _ ?side1 ?side2 A22.out).mono ?_
                  (case side1 => repeat (first | exact (Kd.C_below HR1.out kz8_4) | (with_reducible refine Kd.C_alloc ?_ _) | (with_reducible refine Kd.C_drewN ?_ _) | (with_reducible refine Kd.C_drew ?_)))
                  (case side2 => exact HC1.out)
                  rintro e w' ⟨rfl, ⟨nd, rfl⟩⟩
                  refine ⟨_, rfl, ?_⟩
                  refine hK.out _ _ ⟨((HB.out.cell (World.block_lt_of_cell? w _ hw185_0)).trans hw185_0), ((HB.out.cell (World.block_lt_of_cell? w _ hw187_0)).trans hw187_0), ((HB.out.cell (World.block_lt_of_cell? w _ hw188_0)).trans hw188_0), ((HB.out.cell (World.block_lt_of_cell? w _ hw189_0)).trans hw189_0), ((HB.out.cell (World.block_lt_of_cell? w _ hw190_0)).trans hw190_0), ((HB.out.cell (World.block_lt_of_cell? w _ hw190_1)).trans hw190_1), ((HB.out.cell (World.block_lt_of_cell? w _ hw190_2)).trans hw190_2), ((HB.out.cell (World.block_lt_of_cell? w _ hw190_3)).trans hw190_3), ((HB.out.cell (World.block_lt_of_cell? w _ hw190_4)).trans hw190_4), ((HB.out.cell (World.block_lt_of_cell? w _ hw190_5)).trans hw190_5), ((HB.out.cell (World.block_lt_of_cell? w _ hw190_6)).trans hw190_6), ((HB.out.cell (World.block_lt_of_cell? w _ hw191_0)).trans hw191_0), ((HB.out.cell (World.block_lt_of_cell? w _ hw192_0)).trans hw192_0), ((HB.out.cell (World.block_lt_of_cell? w _ hw192_1)).trans hw192_1), ((HB.out.cell (World.block_lt_of_cell? w _ hw192_2)).trans hw192_2), ((HB.out.cell (World.block_lt_of_cell? w _ hw192_3)).trans hw192_3), ((HB.out.cell (World.block_lt_of_cell? w _ hw192_4)).trans hw192_4), ((HB.out.cell (World.block_lt_of_cell? w _ hw192_5)).trans hw192_5), ((HB.out.cell (World.block_lt_of_cell? w _ hw192_6)).trans hw192_6)⟩ (fun hHeld => ?_)
                  clear hK K
                  refine norm_ (a' := ?_) ?_ ?_
                  rotate_left
                  ·show Act.put _ (some 74) _ = _
                   simp only [Act.put, List.setIfInBounds_toArray, List.set_cons_zero, List.set_cons_succ, i64_w, i32_w]
                   rfl
                  refine pz_ 44 (some 75) (dA_ 47 35184372088831) HT_ (h := ?_)
                  refine pz_ 45 (some 76) (dA_ 47 70368744177663) HT_ (h := ?_)
                  refine pz_ 46 (some 77) (dA_ 47 140737488355327) HT_ (h := ?_)
                  refine done_ (done_of HT_.out (by kernel_rfl)) ?_
                  try go_wp2
                  go_roundg k2
                  case measure => have := HJ2.out; have := HK2.out; omega
                  case rel => exact ⟨(wrap64 (x28_2 + 1)), kz8_3, H', ⟨by have := HJ2.out; have := HK2.out; omega⟩, ⟨by repeat (first | (with_reducible first | exact HB.out | apply below_alloc | apply pw_below_drewN | apply below_drew1) | exact HB.out)⟩⟩
                 ·replace c23 := Bool.eq_false_iff.mpr c23
                  subst c23
                  have H1 : (some false) = some r := by rw [if_neg (show ¬ (false = true) by decide)] at H; exact H
                  clear H
                  have H := H1
                  clear H1
                  obtain rfl := Option.some.inj H
                  try go_wp2
                  have n0_ := Aside0.mk (below_drew1 HB.out)
                  clear HB
                  have HB := n0_
                  clear n0_
                  have p185 : 0 ≤ (x28_2 : Int) := of_decide_eq_true kz8_1
                  have q185 : x28_2 < (l1.length : Int) := of_decide_eq_true kz8_1
                  obtain ⟨ad185, e185, hx185_0⟩ := Kd.at_int HR1.out x28_2 p185 q185
                  have hw185_0 := hx185_0
                  cases e185
                  replace hx185_0 := (HB.out.cell (World.block_lt_of_cell? w _ hx185_0)).trans hx185_0
                  replace p185 := eq_true p185
                  replace q185 := eq_true q185
                  have p187 : 0 ≤ ((ji14) : Int) := of_decide_eq_true kz8_1
                  have q187 : (ji14) < (l1.length : Int) := of_decide_eq_true kz8_1
                  obtain ⟨ad187, e187, hx187_0⟩ := Kd.at_int HR1.out (ji14) p187 q187
                  have hw187_0 := hx187_0
                  obtain rfl : ad185 = ad187 := (by injection e187)
                  replace hx187_0 := (HB.out.cell (World.block_lt_of_cell? w _ hx187_0)).trans hx187_0
                  replace p187 := eq_true p187
                  replace q187 := eq_true q187
                  have p188 : 0 ≤ (x28_2 : Int) := of_decide_eq_true kz8_1
                  have q188 : x28_2 < (l1.length : Int) := of_decide_eq_true kz8_1
                  obtain ⟨ad188, e188, hx188_0⟩ := Kd.at_int HR1.out x28_2 p188 q188
                  have hw188_0 := hx188_0
                  obtain rfl : ad185 = ad188 := (by injection e188)
                  replace hx188_0 := (HB.out.cell (World.block_lt_of_cell? w _ hx188_0)).trans hx188_0
                  replace p188 := eq_true p188
                  replace q188 := eq_true q188
                  have p189 : 0 ≤ (x28_2 : Int) := of_decide_eq_true kz8_1
                  have q189 : x28_2 < (l1.length : Int) := of_decide_eq_true kz8_1
                  obtain ⟨ad189, e189, hx189_0⟩ := Kd.at_int HR1.out x28_2 p189 q189
                  have hw189_0 := hx189_0
                  obtain rfl : ad185 = ad189 := (by injection e189)
                  replace hx189_0 := (HB.out.cell (World.block_lt_of_cell? w _ hx189_0)).trans hx189_0
                  replace p189 := eq_true p189
                  replace q189 := eq_true q189
                  have p190 : 0 ≤ ((rd l1 x28_2) : Int) := of_decide_eq_true kz8_1
                  have q190 : (rd l1 x28_2) < (l0.length : Int) := of_decide_eq_true kz8_1
                  obtain ⟨ad190, e190, hx190_0, hx190_1, hx190_2, hx190_3, hx190_4, hx190_5, hx190_6⟩ := at_T140 HR0.out (rd l1 x28_2) p190 q190
                  have hw190_6 := hx190_6
                  have hw190_5 := hx190_5
                  have hw190_4 := hx190_4
                  have hw190_3 := hx190_3
                  have hw190_2 := hx190_2
                  have hw190_1 := hx190_1
                  have hw190_0 := hx190_0
                  cases e190
                  replace hx190_0 := (HB.out.cell (World.block_lt_of_cell? w _ hx190_0)).trans hx190_0
                  replace hx190_1 := (HB.out.cell (World.block_lt_of_cell? w _ hx190_1)).trans hx190_1
                  replace hx190_2 := (HB.out.cell (World.block_lt_of_cell? w _ hx190_2)).trans hx190_2
                  replace hx190_3 := (HB.out.cell (World.block_lt_of_cell? w _ hx190_3)).trans hx190_3
                  replace hx190_4 := (HB.out.cell (World.block_lt_of_cell? w _ hx190_4)).trans hx190_4
                  replace hx190_5 := (HB.out.cell (World.block_lt_of_cell? w _ hx190_5)).trans hx190_5
                  replace hx190_6 := (HB.out.cell (World.block_lt_of_cell? w _ hx190_6)).trans hx190_6
                  replace p190 := eq_true p190
                  replace q190 := eq_true q190
                  have p191 : 0 ≤ (x28_2 : Int) := of_decide_eq_true kz8_1
                  have q191 : x28_2 < (l1.length : Int) := of_decide_eq_true kz8_1
                  obtain ⟨ad191, e191, hx191_0⟩ := Kd.at_int HR1.out x28_2 p191 q191
                  have hw191_0 := hx191_0
                  obtain rfl : ad185 = ad191 := (by injection e191)
                  replace hx191_0 := (HB.out.cell (World.block_lt_of_cell? w _ hx191_0)).trans hx191_0
                  replace p191 := eq_true p191
                  replace q191 := eq_true q191
                  have p192 : 0 ≤ ((rd l1 x28_2) : Int) := of_decide_eq_true kz8_1
                  have q192 : (rd l1 x28_2) < (l0.length : Int) := of_decide_eq_true kz8_1
                  obtain ⟨ad192, e192, hx192_0, hx192_1, hx192_2, hx192_3, hx192_4, hx192_5, hx192_6⟩ := at_T140 HR0.out (rd l1 x28_2) p192 q192
                  have hw192_6 := hx192_6
                  have hw192_5 := hx192_5
                  have hw192_4 := hx192_4
                  have hw192_3 := hx192_3
                  have hw192_2 := hx192_2
                  have hw192_1 := hx192_1
                  have hw192_0 := hx192_0
                  obtain rfl : ad190 = ad192 := (by injection e192)
                  replace hx192_0 := (HB.out.cell (World.block_lt_of_cell? w _ hx192_0)).trans hx192_0
                  replace hx192_1 := (HB.out.cell (World.block_lt_of_cell? w _ hx192_1)).trans hx192_1
                  replace hx192_2 := (HB.out.cell (World.block_lt_of_cell? w _ hx192_2)).trans hx192_2
                  replace hx192_3 := (HB.out.cell (World.block_lt_of_cell? w _ hx192_3)).trans hx192_3
                  replace hx192_4 := (HB.out.cell (World.block_lt_of_cell? w _ hx192_4)).trans hx192_4
                  replace hx192_5 := (HB.out.cell (World.block_lt_of_cell? w _ hx192_5)).trans hx192_5
                  replace hx192_6 := (HB.out.cell (World.block_lt_of_cell? w _ hx192_6)).trans hx192_6
                  replace p192 := eq_true p192
                  replace q192 := eq_true q192
                  refine start_ (n := 47) (S := fun w' => w'.cell? (ad185.add (x28_2).toNat) = some (.int .i64 (rd l1 x28_2)) ∧ w'.cell? (ad185.add ((ji14)).toNat) = some (.int .i64 (rd l1 (ji14))) ∧ w'.cell? (ad185.add (x28_2).toNat) = some (.int .i64 (rd l1 x28_2)) ∧ w'.cell? (ad185.add (x28_2).toNat) = some (.int .i64 (rd l1 x28_2)) ∧ w'.cell? (ad190.add (((rd l1 x28_2)).toNat * 7)) = some (.string ((rd_T140 l0 (rd l1 x28_2)).f0)) ∧ w'.cell? ⟨(ad190.add (((rd l1 x28_2)).toNat * 7)).block, (ad190.add (((rd l1 x28_2)).toNat * 7)).off + 1, none⟩ = some (.int .i64 ((rd_T140 l0 (rd l1 x28_2)).f1)) ∧ w'.cell? ⟨(ad190.add (((rd l1 x28_2)).toNat * 7)).block, (ad190.add (((rd l1 x28_2)).toNat * 7)).off + 2, none⟩ = some (.int .i64 ((rd_T140 l0 (rd l1 x28_2)).f2)) ∧ w'.cell? ⟨(ad190.add (((rd l1 x28_2)).toNat * 7)).block, (ad190.add (((rd l1 x28_2)).toNat * 7)).off + 3, none⟩ = some (.int .i64 ((rd_T140 l0 (rd l1 x28_2)).f3)) ∧ w'.cell? ⟨(ad190.add (((rd l1 x28_2)).toNat * 7)).block, (ad190.add (((rd l1 x28_2)).toNat * 7)).off + 4, none⟩ = some (.bool ((rd_T140 l0 (rd l1 x28_2)).f4)) ∧ w'.cell? ⟨(ad190.add (((rd l1 x28_2)).toNat * 7)).block, (ad190.add (((rd l1 x28_2)).toNat * 7)).off + 5, none⟩ = some (.bool ((rd_T140 l0 (rd l1 x28_2)).f5)) ∧ w'.cell? ⟨(ad190.add (((rd l1 x28_2)).toNat * 7)).block, (ad190.add (((rd l1 x28_2)).toNat * 7)).off + 6, none⟩ = some (.bool ((rd_T140 l0 (rd l1 x28_2)).f6)) ∧ w'.cell? (ad185.add (x28_2).toNat) = some (.int .i64 (rd l1 x28_2)) ∧ w'.cell? (ad190.add (((rd l1 x28_2)).toNat * 7)) = some (.string ((rd_T140 l0 (rd l1 x28_2)).f0)) ∧ w'.cell? ⟨(ad190.add (((rd l1 x28_2)).toNat * 7)).block, (ad190.add (((rd l1 x28_2)).toNat * 7)).off + 1, none⟩ = some (.int .i64 ((rd_T140 l0 (rd l1 x28_2)).f1)) ∧ w'.cell? ⟨(ad190.add (((rd l1 x28_2)).toNat * 7)).block, (ad190.add (((rd l1 x28_2)).toNat * 7)).off + 2, none⟩ = some (.int .i64 ((rd_T140 l0 (rd l1 x28_2)).f2)) ∧ w'.cell? ⟨(ad190.add (((rd l1 x28_2)).toNat * 7)).block, (ad190.add (((rd l1 x28_2)).toNat * 7)).off + 3, none⟩ = some (.int .i64 ((rd_T140 l0 (rd l1 x28_2)).f3)) ∧ w'.cell? ⟨(ad190.add (((rd l1 x28_2)).toNat * 7)).block, (ad190.add (((rd l1 x28_2)).toNat * 7)).off + 4, none⟩ = some (.bool ((rd_T140 l0 (rd l1 x28_2)).f4)) ∧ w'.cell? ⟨(ad190.add (((rd l1 x28_2)).toNat * 7)).block, (ad190.add (((rd l1 x28_2)).toNat * 7)).off + 5, none⟩ = some (.bool ((rd_T140 l0 (rd l1 x28_2)).f5)) ∧ w'.cell? ⟨(ad190.add (((rd l1 x28_2)).toNat * 7)).block, (ad190.add (((rd l1 x28_2)).toNat * 7)).off + 6, none⟩ = some (.bool ((rd_T140 l0 (rd l1 x28_2)).f6))) (ds := []) #[false, false, false, false, false, false, false, false, false, false, false, false, false, false, false, false, false, false, false, false, false, false, false, false, false, false, false, false, false, false, false, false, false, false, false, false, false, false, false, false, false, false, false, false, false, false, false] (by kernel_rfl) rfl rfl ⟨((HB.out.cell (World.block_lt_of_cell? w _ hw185_0)).trans hw185_0), ((HB.out.cell (World.block_lt_of_cell? w _ hw187_0)).trans hw187_0), ((HB.out.cell (World.block_lt_of_cell? w _ hw188_0)).trans hw188_0), ((HB.out.cell (World.block_lt_of_cell? w _ hw189_0)).trans hw189_0), ((HB.out.cell (World.block_lt_of_cell? w _ hw190_0)).trans hw190_0), ((HB.out.cell (World.block_lt_of_cell? w _ hw190_1)).trans hw190_1), ((HB.out.cell (World.block_lt_of_cell? w _ hw190_2)).trans hw190_2), ((HB.out.cell (World.block_lt_of_cell? w _ hw190_3)).trans hw190_3), ((HB.out.cell (World.block_lt_of_cell? w _ hw190_4)).trans hw190_4), ((HB.out.cell (World.block_lt_of_cell? w _ hw190_5)).trans hw190_5), ((HB.out.cell (World.block_lt_of_cell? w _ hw190_6)).trans hw190_6), ((HB.out.cell (World.block_lt_of_cell? w _ hw191_0)).trans hw191_0), ((HB.out.cell (World.block_lt_of_cell? w _ hw192_0)).trans hw192_0), ((HB.out.cell (World.block_lt_of_cell? w _ hw192_1)).trans hw192_1), ((HB.out.cell (World.block_lt_of_cell? w _ hw192_2)).trans hw192_2), ((HB.out.cell (World.block_lt_of_cell? w _ hw192_3)).trans hw192_3), ((HB.out.cell (World.block_lt_of_cell? w _ hw192_4)).trans hw192_4), ((HB.out.cell (World.block_lt_of_cell? w _ hw192_5)).trans hw192_5), ((HB.out.cell (World.block_lt_of_cell? w _ hw192_6)).trans hw192_6)⟩ (fun hHeld => ?_); refine with_tabW tumbrelref09_Legal.tab6 tumbrelref09_Legal.bits6 (fun HT_ HW_ => ?_)
                  generalize wr.drew = w25 at HB hx185_0 hx187_0 hx188_0 hx189_0 hx190_0 hx190_1 hx190_2 hx190_3 hx190_4 hx190_5 hx190_6 hx191_0 hx192_0 hx192_1 hx192_2 hx192_3 hx192_4 hx192_5 hx192_6 hHeld ⊢
                  refine pz_ 0 (some 31) (dA_ 47 1) HT_ (h := ?_)
                  refine pz_ 1 (some 32) (dA_ 47 3) HT_ (h := ?_)
                  refine pz_ 2 (some 33) (dA_ 47 7) HT_ (h := ?_)
                  refine pz_ 3 (some 34) (dA_ 47 15) HT_ (h := ?_)
                  refine take_ (i := 4) (N := some 35) (v := ?_) (a' := ?_) (dA_ 47 31) rfl rfl (take_ofW HT_.out HW_.out (by kernel_rfl)) (fun _ _ _ h => h) (Or.inl ⟨by rfl, ?_⟩) hHeld ?_ ?_
                  rotate_left
                  ·rintro w' ⟨s0, s1, s2, s3, s4, s5, s6, s7, s8, s9, s10, s11, s12, s13, s14, s15, s16, s17, s18⟩
                   go_simp
                   with_reducible rfl
                  rotate_left
                  ·simp only [Act.put, List.setIfInBounds_toArray, List.set_cons_zero, List.set_cons_succ, i64_w, i32_w]
                   rfl
                  refine one_ (i := 5) (N := some 36) (dA_ 47 63) rfl rfl (one_of HT_.out (by kernel_rfl)) (by decide) (fun K hK => ?_)
                  refine goes_ Try.func87 (by kernel_rfl) rfl #[.slice (some ad190) l0.length c0, .int .i64 (rd l1 x28_2)] (by rfl) rfl rfl kz8_2 ?_
                  with_reducible refine (tumbrelref09_state.calls _ _ l0 (rd l1 x28_2) true _ ?side1 ?side2 A11.out).mono ?_
                  (case side1 => repeat (first | exact (Kd.C_below HR0.out HB.out) | (with_reducible refine Kd.C_alloc ?_ _) | (with_reducible refine Kd.C_drewN ?_ _) | (with_reducible refine Kd.C_drew ?_)))
                  (case side2 => exact HC0.out)
                  rintro e w' ⟨rfl, ⟨nd, rfl⟩⟩
                  refine ⟨_, rfl, ?_⟩
                  refine hK.out _ _ ⟨((HB.out.cell (World.block_lt_of_cell? w _ hw185_0)).trans hw185_0), ((HB.out.cell (World.block_lt_of_cell? w _ hw187_0)).trans hw187_0), ((HB.out.cell (World.block_lt_of_cell? w _ hw188_0)).trans hw188_0), ((HB.out.cell (World.block_lt_of_cell? w _ hw189_0)).trans hw189_0), ((HB.out.cell (World.block_lt_of_cell? w _ hw190_0)).trans hw190_0), ((HB.out.cell (World.block_lt_of_cell? w _ hw190_1)).trans hw190_1), ((HB.out.cell (World.block_lt_of_cell? w _ hw190_2)).trans hw190_2), ((HB.out.cell (World.block_lt_of_cell? w _ hw190_3)).trans hw190_3), ((HB.out.cell (World.block_lt_of_cell? w _ hw190_4)).trans hw190_4), ((HB.out.cell (World.block_lt_of_cell? w _ hw190_5)).trans hw190_5), ((HB.out.cell (World.block_lt_of_cell? w _ hw190_6)).trans hw190_6), ((HB.out.cell (World.block_lt_of_cell? w _ hw191_0)).trans hw191_0), ((HB.out.cell (World.block_lt_of_cell? w _ hw192_0)).trans hw192_0), ((HB.out.cell (World.block_lt_of_cell? w _ hw192_1)).trans hw192_1), ((HB.out.cell (World.block_lt_of_cell? w _ hw192_2)).trans hw192_2), ((HB.out.cell (World.block_lt_of_cell? w _ hw192_3)).trans hw192_3), ((HB.out.cell (World.block_lt_of_cell? w _ hw192_4)).trans hw192_4), ((HB.out.cell (World.block_lt_of_cell? w _ hw192_5)).trans hw192_5), ((HB.out.cell (World.block_lt_of_cell? w _ hw192_6)).trans hw192_6)⟩ (fun hHeld => ?_)
                  clear hK K
                  refine norm_ (a' := ?_) ?_ ?_
                  rotate_left
                  ·show Act.put _ (some 36) _ = _
                   simp only [Act.put, List.setIfInBounds_toArray, List.set_cons_zero, List.set_cons_succ, i64_w, i32_w]
                   rfl
                  refine pz_ 6 (some 37) (dA_ 47 127) HT_ (h := ?_)
                  refine pz_ 7 (some 38) (dA_ 47 255) HT_ (h := ?_)
                  refine pz_ 8 (some 39) (dA_ 47 511) HT_ (h := ?_)
                  refine pz_ 9 (some 40) (dA_ 47 1023) HT_ (h := ?_)
                  refine pz_ 10 (some 41) (dA_ 47 2047) HT_ (h := ?_)
                  refine pz_ 11 (some 42) (dA_ 47 4095) HT_ (h := ?_)
                  refine pz_ 12 (some 43) (dA_ 47 8191) HT_ (h := ?_)
                  refine pz_ 13 (some 44) (dA_ 47 16383) HT_ (h := ?_)
                  refine pz_ 14 (some 45) (dA_ 47 32767) HT_ (h := ?_)
                  refine pz_ 16 (some 47) (dA_ 47 98303) HT_ (h := ?_)
                  refine pz_ 17 (some 48) (dA_ 47 229375) HT_ (h := ?_)
                  refine pz_ 18 (some 49) (dA_ 47 491519) HT_ (h := ?_)
                  refine take_ (i := 15) (N := some 46) (v := ?_) (a' := ?_) (dA_ 47 524287) rfl rfl (take_ofW HT_.out HW_.out (by kernel_rfl)) (fun _ _ _ h => h) (Or.inl ⟨by rfl, ?_⟩) hHeld ?_ ?_
                  rotate_left
                  ·rintro w' ⟨s0, s1, s2, s3, s4, s5, s6, s7, s8, s9, s10, s11, s12, s13, s14, s15, s16, s17, s18⟩
                   go_simp
                   with_reducible rfl
                  rotate_left
                  ·simp only [Act.put, List.setIfInBounds_toArray, List.set_cons_zero, List.set_cons_succ, i64_w, i32_w]
                   rfl
                  refine take_ (i := 19) (N := some 50) (v := ?_) (a' := ?_) (dA_ 47 1048575) rfl rfl (take_ofW HT_.out HW_.out (by kernel_rfl)) (fun _ _ _ h => h) (Or.inl ⟨by rfl, ?_⟩) hHeld ?_ ?_
                  rotate_left
                  ·rintro w' ⟨s0, s1, s2, s3, s4, s5, s6, s7, s8, s9, s10, s11, s12, s13, s14, s15, s16, s17, s18⟩
                   go_simp
                   with_reducible rfl
                  rotate_left
                  ·simp only [Act.put, List.setIfInBounds_toArray, List.set_cons_zero, List.set_cons_succ, i64_w, i32_w]
                   rfl
                  refine pz_ 20 (some 51) (dA_ 47 2097151) HT_ (h := ?_)
                  refine pz_ 21 (some 52) (dA_ 47 4194303) HT_ (h := ?_)
                  refine pz_ 22 (some 53) (dA_ 47 8388607) HT_ (h := ?_)
                  refine pz_ 23 (some 54) (dA_ 47 16777215) HT_ (h := ?_)
                  refine pz_ 24 (some 55) (dA_ 47 33554431) HT_ (h := ?_)
                  refine pz_ 25 (some 56) (dA_ 47 67108863) HT_ (h := ?_)
                  refine pz_ 26 (some 57) (dA_ 47 134217727) HT_ (h := ?_)
                  refine pz_ 27 (some 58) (dA_ 47 268435455) HT_ (h := ?_)
                  refine take_ (i := 28) (N := some 59) (v := ?_) (a' := ?_) (dA_ 47 536870911) rfl rfl (take_ofW HT_.out HW_.out (by kernel_rfl)) (fun _ _ _ h => h) (Or.inl ⟨by rfl, ?_⟩) hHeld ?_ ?_
                  rotate_left
                  ·rintro w' ⟨s0, s1, s2, s3, s4, s5, s6, s7, s8, s9, s10, s11, s12, s13, s14, s15, s16, s17, s18⟩
                   go_simp
                   with_reducible rfl
                  rotate_left
                  ·simp only [Act.put, List.setIfInBounds_toArray, List.set_cons_zero, List.set_cons_succ, i64_w, i32_w]
                   rfl
                  refine pz_ 29 (some 60) (dA_ 47 1073741823) HT_ (h := ?_)
                  refine pz_ 30 (some 61) (dA_ 47 2147483647) HT_ (h := ?_)
                  refine take_ (i := 31) (N := some 62) (v := ?_) (a' := ?_) (dA_ 47 4294967295) rfl rfl (take_ofW HT_.out HW_.out (by kernel_rfl)) (fun _ _ _ h => h) (Or.inl ⟨by rfl, ?_⟩) hHeld ?_ ?_
                  rotate_left
                  ·rintro w' ⟨s0, s1, s2, s3, s4, s5, s6, s7, s8, s9, s10, s11, s12, s13, s14, s15, s16, s17, s18⟩
                   go_simp
                   with_reducible rfl
                  rotate_left
                  ·simp only [Act.put, List.setIfInBounds_toArray, List.set_cons_zero, List.set_cons_succ, i64_w, i32_w]
                   rfl
                  refine pz_ 32 (some 63) (dA_ 47 8589934591) HT_ (h := ?_)
                  refine pz_ 33 (some 64) (dA_ 47 17179869183) HT_ (h := ?_)
                  refine pz_ 34 (some 65) (dA_ 47 34359738367) HT_ (h := ?_)
                  refine pz_ 35 (some 66) (dA_ 47 68719476735) HT_ (h := ?_)
                  refine pz_ 36 (some 67) (dA_ 47 137438953471) HT_ (h := ?_)
                  refine pz_ 37 (some 68) (dA_ 47 274877906943) HT_ (h := ?_)
                  refine pz_ 38 (some 69) (dA_ 47 549755813887) HT_ (h := ?_)
                  refine take_ (i := 39) (N := some 70) (v := ?_) (a' := ?_) (dA_ 47 1099511627775) rfl rfl (take_ofW HT_.out HW_.out (by kernel_rfl)) (fun _ _ _ h => h) (Or.inl ⟨by rfl, ?_⟩) hHeld ?_ ?_
                  rotate_left
                  ·rintro w' ⟨s0, s1, s2, s3, s4, s5, s6, s7, s8, s9, s10, s11, s12, s13, s14, s15, s16, s17, s18⟩
                   go_simp
                   with_reducible rfl
                  rotate_left
                  ·simp only [Act.put, List.setIfInBounds_toArray, List.set_cons_zero, List.set_cons_succ, i64_w, i32_w]
                   rfl
                  refine pz_ 40 (some 71) (dA_ 47 2199023255551) HT_ (h := ?_)
                  refine pz_ 41 (some 72) (dA_ 47 4398046511103) HT_ (h := ?_)
                  refine take_ (i := 42) (N := some 73) (v := ?_) (a' := ?_) (dA_ 47 8796093022207) rfl rfl (take_ofW HT_.out HW_.out (by kernel_rfl)) (fun _ _ _ h => h) (Or.inl ⟨by rfl, ?_⟩) hHeld ?_ ?_
                  rotate_left
                  ·rintro w' ⟨s0, s1, s2, s3, s4, s5, s6, s7, s8, s9, s10, s11, s12, s13, s14, s15, s16, s17, s18⟩
                   go_simp
                   with_reducible rfl
                  rotate_left
                  ·simp only [Act.put, List.setIfInBounds_toArray, List.set_cons_zero, List.set_cons_succ, i64_w, i32_w]
                   rfl
                  refine one_ (i := 43) (N := some 74) (dA_ 47 17592186044415) rfl rfl (one_of HT_.out (by kernel_rfl)) (by decide) (fun K hK => ?_)
                  refine goes_ Try.func88 (by kernel_rfl) rfl #[.slice (some ad185) l1.length c1, .int .i64 ((rd_T140 l0 (rd l1 x28_2)).f1)] (by rfl) rfl rfl kz8_2 ?_
                  with_reducible refine (tumbrelref09_has.calls k2 _ _ l1 ((rd_T140 l0 (rd l1 x28_2)).f1) false _ ?side1 ?side2 A22.out).mono ?_
                  (case side1 => repeat (first | exact (Kd.C_below HR1.out kz8_4) | (with_reducible refine Kd.C_alloc ?_ _) | (with_reducible refine Kd.C_drewN ?_ _) | (with_reducible refine Kd.C_drew ?_)))
                  (case side2 => exact HC1.out)
                  rintro e w' ⟨rfl, ⟨nd, rfl⟩⟩
                  refine ⟨_, rfl, ?_⟩
                  refine hK.out _ _ ⟨((HB.out.cell (World.block_lt_of_cell? w _ hw185_0)).trans hw185_0), ((HB.out.cell (World.block_lt_of_cell? w _ hw187_0)).trans hw187_0), ((HB.out.cell (World.block_lt_of_cell? w _ hw188_0)).trans hw188_0), ((HB.out.cell (World.block_lt_of_cell? w _ hw189_0)).trans hw189_0), ((HB.out.cell (World.block_lt_of_cell? w _ hw190_0)).trans hw190_0), ((HB.out.cell (World.block_lt_of_cell? w _ hw190_1)).trans hw190_1), ((HB.out.cell (World.block_lt_of_cell? w _ hw190_2)).trans hw190_2), ((HB.out.cell (World.block_lt_of_cell? w _ hw190_3)).trans hw190_3), ((HB.out.cell (World.block_lt_of_cell? w _ hw190_4)).trans hw190_4), ((HB.out.cell (World.block_lt_of_cell? w _ hw190_5)).trans hw190_5), ((HB.out.cell (World.block_lt_of_cell? w _ hw190_6)).trans hw190_6), ((HB.out.cell (World.block_lt_of_cell? w _ hw191_0)).trans hw191_0), ((HB.out.cell (World.block_lt_of_cell? w _ hw192_0)).trans hw192_0), ((HB.out.cell (World.block_lt_of_cell? w _ hw192_1)).trans hw192_1), ((HB.out.cell (World.block_lt_of_cell? w _ hw192_2)).trans hw192_2), ((HB.out.cell (World.block_lt_of_cell? w _ hw192_3)).trans hw192_3), ((HB.out.cell (World.block_lt_of_cell? w _ hw192_4)).trans hw192_4), ((HB.out.cell (World.block_lt_of_cell? w _ hw192_5)).trans hw192_5), ((HB.out.cell (World.block_lt_of_cell? w _ hw192_6)).trans hw192_6)⟩ (fun hHeld => ?_)
                  clear hK K
                  refine norm_ (a' := ?_) ?_ ?_
                  rotate_left
                  ·show Act.put _ (some 74) _ = _
                   simp only [Act.put, List.setIfInBounds_toArray, List.set_cons_zero, List.set_cons_succ, i64_w, i32_w]
                   rfl
                  refine pz_ 44 (some 75) (dA_ 47 35184372088831) HT_ (h := ?_)
                  refine pz_ 45 (some 76) (dA_ 47 70368744177663) HT_ (h := ?_)
                  refine pz_ 46 (some 77) (dA_ 47 140737488355327) HT_ (h := ?_)
                  refine done_ (done_of HT_.out (by kernel_rfl)) ?_
                  try go_wp2
                  go_ret
                  exact ⟨by first | rfl | (simp [errW_none, errW_some] <;> rfl) | (simp only [← hji14]; first | rfl | (simp [errW_none, errW_some] <;> rfl)) | (simp [*, errW_none, errW_some] <;> rfl), by repeat (first | (with_reducible first | exact HB.out | apply below_alloc | apply pw_below_drewN | apply below_drew1) | exact HB.out)⟩
                ·rw [if_neg c21] at H
                 have c21b0 : decide (0 ≤ ((rd_T140 l0 (rd l1 x28_2)).f1)) = false := decide_eq_false c21
                 clear c21
                 have H' := Aside0.mk H
                 clear H
                 try go_wp2
                 have n0_ := Aside0.mk (below_drew1 HB.out)
                 clear HB
                 have HB := n0_
                 clear n0_
                 have p185 : 0 ≤ (x28_2 : Int) := of_decide_eq_true kz8_1
                 have q185 : x28_2 < (l1.length : Int) := of_decide_eq_true kz8_1
                 obtain ⟨ad185, e185, hx185_0⟩ := Kd.at_int HR1.out x28_2 p185 q185
                 have hw185_0 := hx185_0
                 cases e185
                 replace hx185_0 := (HB.out.cell (World.block_lt_of_cell? w _ hx185_0)).trans hx185_0
                 replace p185 := eq_true p185
                 replace q185 := eq_true q185
                 have p187 : 0 ≤ ((ji14) : Int) := of_decide_eq_true kz8_1
                 have q187 : (ji14) < (l1.length : Int) := of_decide_eq_true kz8_1
                 obtain ⟨ad187, e187, hx187_0⟩ := Kd.at_int HR1.out (ji14) p187 q187
                 have hw187_0 := hx187_0
                 obtain rfl : ad185 = ad187 := (by injection e187)
                 replace hx187_0 := (HB.out.cell (World.block_lt_of_cell? w _ hx187_0)).trans hx187_0
                 replace p187 := eq_true p187
                 replace q187 := eq_true q187
                 have p188 : 0 ≤ (x28_2 : Int) := of_decide_eq_true kz8_1
                 have q188 : x28_2 < (l1.length : Int) := of_decide_eq_true kz8_1
                 obtain ⟨ad188, e188, hx188_0⟩ := Kd.at_int HR1.out x28_2 p188 q188
                 have hw188_0 := hx188_0
                 obtain rfl : ad185 = ad188 := (by injection e188)
                 replace hx188_0 := (HB.out.cell (World.block_lt_of_cell? w _ hx188_0)).trans hx188_0
                 replace p188 := eq_true p188
                 replace q188 := eq_true q188
                 have p189 : 0 ≤ (x28_2 : Int) := of_decide_eq_true kz8_1
                 have q189 : x28_2 < (l1.length : Int) := of_decide_eq_true kz8_1
                 obtain ⟨ad189, e189, hx189_0⟩ := Kd.at_int HR1.out x28_2 p189 q189
                 have hw189_0 := hx189_0
                 obtain rfl : ad185 = ad189 := (by injection e189)
                 replace hx189_0 := (HB.out.cell (World.block_lt_of_cell? w _ hx189_0)).trans hx189_0
                 replace p189 := eq_true p189
                 replace q189 := eq_true q189
                 have p190 : 0 ≤ ((rd l1 x28_2) : Int) := of_decide_eq_true kz8_1
                 have q190 : (rd l1 x28_2) < (l0.length : Int) := of_decide_eq_true kz8_1
                 obtain ⟨ad190, e190, hx190_0, hx190_1, hx190_2, hx190_3, hx190_4, hx190_5, hx190_6⟩ := at_T140 HR0.out (rd l1 x28_2) p190 q190
                 have hw190_6 := hx190_6
                 have hw190_5 := hx190_5
                 have hw190_4 := hx190_4
                 have hw190_3 := hx190_3
                 have hw190_2 := hx190_2
                 have hw190_1 := hx190_1
                 have hw190_0 := hx190_0
                 cases e190
                 replace hx190_0 := (HB.out.cell (World.block_lt_of_cell? w _ hx190_0)).trans hx190_0
                 replace hx190_1 := (HB.out.cell (World.block_lt_of_cell? w _ hx190_1)).trans hx190_1
                 replace hx190_2 := (HB.out.cell (World.block_lt_of_cell? w _ hx190_2)).trans hx190_2
                 replace hx190_3 := (HB.out.cell (World.block_lt_of_cell? w _ hx190_3)).trans hx190_3
                 replace hx190_4 := (HB.out.cell (World.block_lt_of_cell? w _ hx190_4)).trans hx190_4
                 replace hx190_5 := (HB.out.cell (World.block_lt_of_cell? w _ hx190_5)).trans hx190_5
                 replace hx190_6 := (HB.out.cell (World.block_lt_of_cell? w _ hx190_6)).trans hx190_6
                 replace p190 := eq_true p190
                 replace q190 := eq_true q190
                 refine start_ (n := 47) (S := fun w' => w'.cell? (ad185.add (x28_2).toNat) = some (.int .i64 (rd l1 x28_2)) ∧ w'.cell? (ad185.add ((ji14)).toNat) = some (.int .i64 (rd l1 (ji14))) ∧ w'.cell? (ad185.add (x28_2).toNat) = some (.int .i64 (rd l1 x28_2)) ∧ w'.cell? (ad185.add (x28_2).toNat) = some (.int .i64 (rd l1 x28_2)) ∧ w'.cell? (ad190.add (((rd l1 x28_2)).toNat * 7)) = some (.string ((rd_T140 l0 (rd l1 x28_2)).f0)) ∧ w'.cell? ⟨(ad190.add (((rd l1 x28_2)).toNat * 7)).block, (ad190.add (((rd l1 x28_2)).toNat * 7)).off + 1, none⟩ = some (.int .i64 ((rd_T140 l0 (rd l1 x28_2)).f1)) ∧ w'.cell? ⟨(ad190.add (((rd l1 x28_2)).toNat * 7)).block, (ad190.add (((rd l1 x28_2)).toNat * 7)).off + 2, none⟩ = some (.int .i64 ((rd_T140 l0 (rd l1 x28_2)).f2)) ∧ w'.cell? ⟨(ad190.add (((rd l1 x28_2)).toNat * 7)).block, (ad190.add (((rd l1 x28_2)).toNat * 7)).off + 3, none⟩ = some (.int .i64 ((rd_T140 l0 (rd l1 x28_2)).f3)) ∧ w'.cell? ⟨(ad190.add (((rd l1 x28_2)).toNat * 7)).block, (ad190.add (((rd l1 x28_2)).toNat * 7)).off + 4, none⟩ = some (.bool ((rd_T140 l0 (rd l1 x28_2)).f4)) ∧ w'.cell? ⟨(ad190.add (((rd l1 x28_2)).toNat * 7)).block, (ad190.add (((rd l1 x28_2)).toNat * 7)).off + 5, none⟩ = some (.bool ((rd_T140 l0 (rd l1 x28_2)).f5)) ∧ w'.cell? ⟨(ad190.add (((rd l1 x28_2)).toNat * 7)).block, (ad190.add (((rd l1 x28_2)).toNat * 7)).off + 6, none⟩ = some (.bool ((rd_T140 l0 (rd l1 x28_2)).f6))) (ds := []) #[false, false, false, false, false, false, false, false, false, false, false, false, false, false, false, false, false, false, false, false, false, false, false, false, false, false, false, false, false, false, false, false, false, false, false, false, false, false, false, false, false, false, false, false, false, false, false] (by kernel_rfl) rfl rfl ⟨((HB.out.cell (World.block_lt_of_cell? w _ hw185_0)).trans hw185_0), ((HB.out.cell (World.block_lt_of_cell? w _ hw187_0)).trans hw187_0), ((HB.out.cell (World.block_lt_of_cell? w _ hw188_0)).trans hw188_0), ((HB.out.cell (World.block_lt_of_cell? w _ hw189_0)).trans hw189_0), ((HB.out.cell (World.block_lt_of_cell? w _ hw190_0)).trans hw190_0), ((HB.out.cell (World.block_lt_of_cell? w _ hw190_1)).trans hw190_1), ((HB.out.cell (World.block_lt_of_cell? w _ hw190_2)).trans hw190_2), ((HB.out.cell (World.block_lt_of_cell? w _ hw190_3)).trans hw190_3), ((HB.out.cell (World.block_lt_of_cell? w _ hw190_4)).trans hw190_4), ((HB.out.cell (World.block_lt_of_cell? w _ hw190_5)).trans hw190_5), ((HB.out.cell (World.block_lt_of_cell? w _ hw190_6)).trans hw190_6)⟩ (fun hHeld => ?_); refine with_tabW tumbrelref09_Legal.tab6 tumbrelref09_Legal.bits6 (fun HT_ HW_ => ?_)
                 generalize wr.drew = w26 at HB hx185_0 hx187_0 hx188_0 hx189_0 hx190_0 hx190_1 hx190_2 hx190_3 hx190_4 hx190_5 hx190_6 hHeld ⊢
                 refine pz_ 0 (some 31) (dA_ 47 1) HT_ (h := ?_)
                 refine pz_ 1 (some 32) (dA_ 47 3) HT_ (h := ?_)
                 refine pz_ 2 (some 33) (dA_ 47 7) HT_ (h := ?_)
                 refine pz_ 3 (some 34) (dA_ 47 15) HT_ (h := ?_)
                 refine take_ (i := 4) (N := some 35) (v := ?_) (a' := ?_) (dA_ 47 31) rfl rfl (take_ofW HT_.out HW_.out (by kernel_rfl)) (fun _ _ _ h => h) (Or.inl ⟨by rfl, ?_⟩) hHeld ?_ ?_
                 rotate_left
                 ·rintro w' ⟨s0, s1, s2, s3, s4, s5, s6, s7, s8, s9, s10⟩
                  go_simp
                  with_reducible rfl
                 rotate_left
                 ·simp only [Act.put, List.setIfInBounds_toArray, List.set_cons_zero, List.set_cons_succ, i64_w, i32_w]
                  rfl
                 refine one_ (i := 5) (N := some 36) (dA_ 47 63) rfl rfl (one_of HT_.out (by kernel_rfl)) (by decide) (fun K hK => ?_)
                 refine goes_ Try.func87 (by kernel_rfl) rfl #[.slice (some ad190) l0.length c0, .int .i64 (rd l1 x28_2)] (by rfl) rfl rfl kz8_2 ?_
                 with_reducible refine (tumbrelref09_state.calls _ _ l0 (rd l1 x28_2) true _ ?side1 ?side2 A11.out).mono ?_
                 (case side1 => repeat (first | exact (Kd.C_below HR0.out HB.out) | (with_reducible refine Kd.C_alloc ?_ _) | (with_reducible refine Kd.C_drewN ?_ _) | (with_reducible refine Kd.C_drew ?_)))
                 (case side2 => exact HC0.out)
                 rintro e w' ⟨rfl, ⟨nd, rfl⟩⟩
                 refine ⟨_, rfl, ?_⟩
                 refine hK.out _ _ ⟨((HB.out.cell (World.block_lt_of_cell? w _ hw185_0)).trans hw185_0), ((HB.out.cell (World.block_lt_of_cell? w _ hw187_0)).trans hw187_0), ((HB.out.cell (World.block_lt_of_cell? w _ hw188_0)).trans hw188_0), ((HB.out.cell (World.block_lt_of_cell? w _ hw189_0)).trans hw189_0), ((HB.out.cell (World.block_lt_of_cell? w _ hw190_0)).trans hw190_0), ((HB.out.cell (World.block_lt_of_cell? w _ hw190_1)).trans hw190_1), ((HB.out.cell (World.block_lt_of_cell? w _ hw190_2)).trans hw190_2), ((HB.out.cell (World.block_lt_of_cell? w _ hw190_3)).trans hw190_3), ((HB.out.cell (World.block_lt_of_cell? w _ hw190_4)).trans hw190_4), ((HB.out.cell (World.block_lt_of_cell? w _ hw190_5)).trans hw190_5), ((HB.out.cell (World.block_lt_of_cell? w _ hw190_6)).trans hw190_6)⟩ (fun hHeld => ?_)
                 clear hK K
                 refine norm_ (a' := ?_) ?_ ?_
                 rotate_left
                 ·show Act.put _ (some 36) _ = _
                  simp only [Act.put, List.setIfInBounds_toArray, List.set_cons_zero, List.set_cons_succ, i64_w, i32_w]
                  rfl
                 refine pz_ 6 (some 37) (dA_ 47 127) HT_ (h := ?_)
                 refine pz_ 7 (some 38) (dA_ 47 255) HT_ (h := ?_)
                 refine pz_ 8 (some 39) (dA_ 47 511) HT_ (h := ?_)
                 refine pz_ 9 (some 40) (dA_ 47 1023) HT_ (h := ?_)
                 refine pz_ 10 (some 41) (dA_ 47 2047) HT_ (h := ?_)
                 refine pz_ 11 (some 42) (dA_ 47 4095) HT_ (h := ?_)
                 refine pz_ 12 (some 43) (dA_ 47 8191) HT_ (h := ?_)
                 refine pz_ 13 (some 44) (dA_ 47 16383) HT_ (h := ?_)
                 refine pz_ 14 (some 45) (dA_ 47 32767) HT_ (h := ?_)
                 refine pz_ 16 (some 47) (dA_ 47 98303) HT_ (h := ?_)
                 refine pz_ 17 (some 48) (dA_ 47 229375) HT_ (h := ?_)
                 refine pz_ 18 (some 49) (dA_ 47 491519) HT_ (h := ?_)
                 refine take_ (i := 15) (N := some 46) (v := ?_) (a' := ?_) (dA_ 47 524287) rfl rfl (take_ofW HT_.out HW_.out (by kernel_rfl)) (fun _ _ _ h => h) (Or.inl ⟨by rfl, ?_⟩) hHeld ?_ ?_
                 rotate_left
                 ·rintro w' ⟨s0, s1, s2, s3, s4, s5, s6, s7, s8, s9, s10⟩
                  go_simp
                  with_reducible rfl
                 rotate_left
                 ·simp only [Act.put, List.setIfInBounds_toArray, List.set_cons_zero, List.set_cons_succ, i64_w, i32_w]
                  rfl
                 refine take_ (i := 19) (N := some 50) (v := ?_) (a' := ?_) (dA_ 47 1048575) rfl rfl (take_ofW HT_.out HW_.out (by kernel_rfl)) (fun _ _ _ h => h) (Or.inl ⟨by rfl, ?_⟩) hHeld ?_ ?_
                 rotate_left
                 ·rintro w' ⟨s0, s1, s2, s3, s4, s5, s6, s7, s8, s9, s10⟩
                  go_simp
                  with_reducible rfl
                 rotate_left
                 ·simp only [Act.put, List.setIfInBounds_toArray, List.set_cons_zero, List.set_cons_succ, i64_w, i32_w]
                  rfl
                 refine pz_ 20 (some 51) (dA_ 47 2097151) HT_ (h := ?_)
                 refine pz_ 21 (some 52) (dA_ 47 4194303) HT_ (h := ?_)
                 refine pz_ 22 (some 53) (dA_ 47 8388607) HT_ (h := ?_)
                 refine pz_ 23 (some 54) (dA_ 47 16777215) HT_ (h := ?_)
                 refine pz_ 24 (some 55) (dA_ 47 33554431) HT_ (h := ?_)
                 refine pz_ 25 (some 56) (dA_ 47 67108863) HT_ (h := ?_)
                 refine pz_ 26 (some 57) (dA_ 47 134217727) HT_ (h := ?_)
                 refine pz_ 27 (some 58) (dA_ 47 268435455) HT_ (h := ?_)
                 refine take_ (i := 28) (N := some 59) (v := ?_) (a' := ?_) (dA_ 47 536870911) rfl rfl (take_ofW HT_.out HW_.out (by kernel_rfl)) (fun _ _ _ h => h) (Or.inl ⟨by rfl, ?_⟩) hHeld ?_ ?_
                 rotate_left
                 ·rintro w' ⟨s0, s1, s2, s3, s4, s5, s6, s7, s8, s9, s10⟩
                  go_simp
                  with_reducible rfl
                 rotate_left
                 ·simp only [Act.put, List.setIfInBounds_toArray, List.set_cons_zero, List.set_cons_succ, i64_w, i32_w]
                  rfl
                 refine pz_ 29 (some 60) (dA_ 47 1073741823) HT_ (h := ?_)
                 refine pz_ 30 (some 61) (dA_ 47 2147483647) HT_ (h := ?_)
                 refine take_ (i := 31) (N := some 62) (v := ?_) (a' := ?_) (dA_ 47 4294967295) rfl rfl (take_ofW HT_.out HW_.out (by kernel_rfl)) (fun _ _ _ h => h) (Or.inl ⟨by rfl, ?_⟩) hHeld ?_ ?_
                 rotate_left
                 ·rintro w' ⟨s0, s1, s2, s3, s4, s5, s6, s7, s8, s9, s10⟩
                  go_simp
                  with_reducible rfl
                 rotate_left
                 ·simp only [Act.put, List.setIfInBounds_toArray, List.set_cons_zero, List.set_cons_succ, i64_w, i32_w]
                  rfl
                 refine pz_ 32 (some 63) (dA_ 47 8589934591) HT_ (h := ?_)
                 refine pz_ 33 (some 64) (dA_ 47 17179869183) HT_ (h := ?_)
                 refine pu_ 34 (some 65) (dA_ 47 34359738367) HT_ (h := ?_)
                 refine pu_ 35 (some 66) (dA_ 47 68719476735) HT_ (h := ?_)
                 refine pu_ 36 (some 67) (dA_ 47 137438953471) HT_ (h := ?_)
                 refine pu_ 37 (some 68) (dA_ 47 274877906943) HT_ (h := ?_)
                 refine pu_ 38 (some 69) (dA_ 47 549755813887) HT_ (h := ?_)
                 refine pu_ 39 (some 70) (dA_ 47 1099511627775) HT_ (h := ?_)
                 refine pu_ 40 (some 71) (dA_ 47 2199023255551) HT_ (h := ?_)
                 refine pu_ 41 (some 72) (dA_ 47 4398046511103) HT_ (h := ?_)
                 refine pu_ 42 (some 73) (dA_ 47 8796093022207) HT_ (h := ?_)
                 refine pu_ 43 (some 74) (dA_ 47 17592186044415) HT_ (h := ?_)
                 refine pu_ 44 (some 75) (dA_ 47 35184372088831) HT_ (h := ?_)
                 refine pz_ 45 (some 76) (dA_ 47 70368744177663) HT_ (h := ?_)
                 refine pz_ 46 (some 77) (dA_ 47 140737488355327) HT_ (h := ?_)
                 refine done_ (done_of HT_.out (by kernel_rfl)) ?_
                 try go_wp2
                 go_roundg k2
                 case measure => have := HJ2.out; have := HK2.out; omega
                 case rel => exact ⟨(wrap64 (x28_2 + 1)), kz8_3, H', ⟨by have := HJ2.out; have := HK2.out; omega⟩, ⟨by repeat (first | (with_reducible first | exact HB.out | apply below_alloc | apply pw_below_drewN | apply below_drew1) | exact HB.out)⟩⟩
               ·rw [if_neg c20] at H
                exact absurd H (by simp)
              ·rw [if_neg c19] at H
               exact absurd H (by simp)
            ·rw [if_neg c16] at H
             exact absurd H (by simp)
           ·rw [if_neg c15] at H
            exact absurd H (by simp)
          ·rw [if_neg c13] at H
           have c13b0 : decide (0 < x28_2) = false := decide_eq_false c13
           clear c13
           by_cases c27 : 0 ≤ (rd l1 x28_2)
           ·rw [if_pos c27] at H
            have c27b0 : decide (0 ≤ (rd l1 x28_2)) = true := decide_eq_true c27
            clear c27
            by_cases c28 : (rd l1 x28_2) < (l0.length : Int)
            ·rw [if_pos c28] at H
             have c28b0 : decide ((rd l1 x28_2) < (l0.length : Int)) = true := decide_eq_true c28
             clear c28
             by_cases c29 : ((rd_T140 l0 (rd l1 x28_2)).f1) ≥ 0
             ·rw [if_pos c29] at H
              have c29b0 : decide (0 ≤ ((rd_T140 l0 (rd l1 x28_2)).f1)) = true := decide_eq_true c29
              clear c29
              replace H := Option.bind_eq_some_iff.mp H
              obtain ⟨t198, A300, H⟩ := H
              replace H : (if t198 = true then (tumbrelref09_Legal.l0 k2 l0 l1 (l1.length : Int) (wrap64 (x28_2 + 1))) else (some false)) = some r := H
              have A30 := Aside0.mk A300
              clear A300
              by_cases c31 : t198 = true
              ·subst c31
               have H1 : (tumbrelref09_Legal.l0 k2 l0 l1 (l1.length : Int) (wrap64 (x28_2 + 1))) = some r := by rw [if_pos rfl] at H; exact H
               clear H
               have H := H1
               clear H1
               have H' := Aside0.mk H
               clear H
               try go_wp2
               have n0_ := Aside0.mk (below_drew1 HB.out)
               clear HB
               have HB := n0_
               clear n0_
               have p185 : 0 ≤ (x28_2 : Int) := of_decide_eq_true kz8_1
               have q185 : x28_2 < (l1.length : Int) := of_decide_eq_true kz8_1
               obtain ⟨ad185, e185, hx185_0⟩ := Kd.at_int HR1.out x28_2 p185 q185
               have hw185_0 := hx185_0
               cases e185
               replace hx185_0 := (HB.out.cell (World.block_lt_of_cell? w _ hx185_0)).trans hx185_0
               replace p185 := eq_true p185
               replace q185 := eq_true q185
               have p194 : 0 ≤ (x28_2 : Int) := of_decide_eq_true kz8_1
               have q194 : x28_2 < (l1.length : Int) := of_decide_eq_true kz8_1
               obtain ⟨ad194, e194, hx194_0⟩ := Kd.at_int HR1.out x28_2 p194 q194
               have hw194_0 := hx194_0
               obtain rfl : ad185 = ad194 := (by injection e194)
               replace hx194_0 := (HB.out.cell (World.block_lt_of_cell? w _ hx194_0)).trans hx194_0
               replace p194 := eq_true p194
               replace q194 := eq_true q194
               have p195 : 0 ≤ ((rd l1 x28_2) : Int) := of_decide_eq_true kz8_1
               have q195 : (rd l1 x28_2) < (l0.length : Int) := of_decide_eq_true kz8_1
               obtain ⟨ad195, e195, hx195_0, hx195_1, hx195_2, hx195_3, hx195_4, hx195_5, hx195_6⟩ := at_T140 HR0.out (rd l1 x28_2) p195 q195
               have hw195_6 := hx195_6
               have hw195_5 := hx195_5
               have hw195_4 := hx195_4
               have hw195_3 := hx195_3
               have hw195_2 := hx195_2
               have hw195_1 := hx195_1
               have hw195_0 := hx195_0
               cases e195
               replace hx195_0 := (HB.out.cell (World.block_lt_of_cell? w _ hx195_0)).trans hx195_0
               replace hx195_1 := (HB.out.cell (World.block_lt_of_cell? w _ hx195_1)).trans hx195_1
               replace hx195_2 := (HB.out.cell (World.block_lt_of_cell? w _ hx195_2)).trans hx195_2
               replace hx195_3 := (HB.out.cell (World.block_lt_of_cell? w _ hx195_3)).trans hx195_3
               replace hx195_4 := (HB.out.cell (World.block_lt_of_cell? w _ hx195_4)).trans hx195_4
               replace hx195_5 := (HB.out.cell (World.block_lt_of_cell? w _ hx195_5)).trans hx195_5
               replace hx195_6 := (HB.out.cell (World.block_lt_of_cell? w _ hx195_6)).trans hx195_6
               replace p195 := eq_true p195
               replace q195 := eq_true q195
               have p196 : 0 ≤ (x28_2 : Int) := of_decide_eq_true kz8_1
               have q196 : x28_2 < (l1.length : Int) := of_decide_eq_true kz8_1
               obtain ⟨ad196, e196, hx196_0⟩ := Kd.at_int HR1.out x28_2 p196 q196
               have hw196_0 := hx196_0
               obtain rfl : ad185 = ad196 := (by injection e196)
               replace hx196_0 := (HB.out.cell (World.block_lt_of_cell? w _ hx196_0)).trans hx196_0
               replace p196 := eq_true p196
               replace q196 := eq_true q196
               have p197 : 0 ≤ ((rd l1 x28_2) : Int) := of_decide_eq_true kz8_1
               have q197 : (rd l1 x28_2) < (l0.length : Int) := of_decide_eq_true kz8_1
               obtain ⟨ad197, e197, hx197_0, hx197_1, hx197_2, hx197_3, hx197_4, hx197_5, hx197_6⟩ := at_T140 HR0.out (rd l1 x28_2) p197 q197
               have hw197_6 := hx197_6
               have hw197_5 := hx197_5
               have hw197_4 := hx197_4
               have hw197_3 := hx197_3
               have hw197_2 := hx197_2
               have hw197_1 := hx197_1
               have hw197_0 := hx197_0
               obtain rfl : ad195 = ad197 := (by injection e197)
               replace hx197_0 := (HB.out.cell (World.block_lt_of_cell? w _ hx197_0)).trans hx197_0
               replace hx197_1 := (HB.out.cell (World.block_lt_of_cell? w _ hx197_1)).trans hx197_1
               replace hx197_2 := (HB.out.cell (World.block_lt_of_cell? w _ hx197_2)).trans hx197_2
               replace hx197_3 := (HB.out.cell (World.block_lt_of_cell? w _ hx197_3)).trans hx197_3
               replace hx197_4 := (HB.out.cell (World.block_lt_of_cell? w _ hx197_4)).trans hx197_4
               replace hx197_5 := (HB.out.cell (World.block_lt_of_cell? w _ hx197_5)).trans hx197_5
               replace hx197_6 := (HB.out.cell (World.block_lt_of_cell? w _ hx197_6)).trans hx197_6
               replace p197 := eq_true p197
               replace q197 := eq_true q197
               refine start_ (n := 47) (S := fun w' => w'.cell? (ad185.add (x28_2).toNat) = some (.int .i64 (rd l1 x28_2)) ∧ w'.cell? (ad185.add (x28_2).toNat) = some (.int .i64 (rd l1 x28_2)) ∧ w'.cell? (ad195.add (((rd l1 x28_2)).toNat * 7)) = some (.string ((rd_T140 l0 (rd l1 x28_2)).f0)) ∧ w'.cell? ⟨(ad195.add (((rd l1 x28_2)).toNat * 7)).block, (ad195.add (((rd l1 x28_2)).toNat * 7)).off + 1, none⟩ = some (.int .i64 ((rd_T140 l0 (rd l1 x28_2)).f1)) ∧ w'.cell? ⟨(ad195.add (((rd l1 x28_2)).toNat * 7)).block, (ad195.add (((rd l1 x28_2)).toNat * 7)).off + 2, none⟩ = some (.int .i64 ((rd_T140 l0 (rd l1 x28_2)).f2)) ∧ w'.cell? ⟨(ad195.add (((rd l1 x28_2)).toNat * 7)).block, (ad195.add (((rd l1 x28_2)).toNat * 7)).off + 3, none⟩ = some (.int .i64 ((rd_T140 l0 (rd l1 x28_2)).f3)) ∧ w'.cell? ⟨(ad195.add (((rd l1 x28_2)).toNat * 7)).block, (ad195.add (((rd l1 x28_2)).toNat * 7)).off + 4, none⟩ = some (.bool ((rd_T140 l0 (rd l1 x28_2)).f4)) ∧ w'.cell? ⟨(ad195.add (((rd l1 x28_2)).toNat * 7)).block, (ad195.add (((rd l1 x28_2)).toNat * 7)).off + 5, none⟩ = some (.bool ((rd_T140 l0 (rd l1 x28_2)).f5)) ∧ w'.cell? ⟨(ad195.add (((rd l1 x28_2)).toNat * 7)).block, (ad195.add (((rd l1 x28_2)).toNat * 7)).off + 6, none⟩ = some (.bool ((rd_T140 l0 (rd l1 x28_2)).f6)) ∧ w'.cell? (ad185.add (x28_2).toNat) = some (.int .i64 (rd l1 x28_2)) ∧ w'.cell? (ad195.add (((rd l1 x28_2)).toNat * 7)) = some (.string ((rd_T140 l0 (rd l1 x28_2)).f0)) ∧ w'.cell? ⟨(ad195.add (((rd l1 x28_2)).toNat * 7)).block, (ad195.add (((rd l1 x28_2)).toNat * 7)).off + 1, none⟩ = some (.int .i64 ((rd_T140 l0 (rd l1 x28_2)).f1)) ∧ w'.cell? ⟨(ad195.add (((rd l1 x28_2)).toNat * 7)).block, (ad195.add (((rd l1 x28_2)).toNat * 7)).off + 2, none⟩ = some (.int .i64 ((rd_T140 l0 (rd l1 x28_2)).f2)) ∧ w'.cell? ⟨(ad195.add (((rd l1 x28_2)).toNat * 7)).block, (ad195.add (((rd l1 x28_2)).toNat * 7)).off + 3, none⟩ = some (.int .i64 ((rd_T140 l0 (rd l1 x28_2)).f3)) ∧ w'.cell? ⟨(ad195.add (((rd l1 x28_2)).toNat * 7)).block, (ad195.add (((rd l1 x28_2)).toNat * 7)).off + 4, none⟩ = some (.bool ((rd_T140 l0 (rd l1 x28_2)).f4)) ∧ w'.cell? ⟨(ad195.add (((rd l1 x28_2)).toNat * 7)).block, (ad195.add (((rd l1 x28_2)).toNat * 7)).off + 5, none⟩ = some (.bool ((rd_T140 l0 (rd l1 x28_2)).f5)) ∧ w'.cell? ⟨(ad195.add (((rd l1 x28_2)).toNat * 7)).block, (ad195.add (((rd l1 x28_2)).toNat * 7)).off + 6, none⟩ = some (.bool ((rd_T140 l0 (rd l1 x28_2)).f6))) (ds := []) #[false, false, false, false, false, false, false, false, false, false, false, false, false, false, false, false, false, false, false, false, false, false, false, false, false, false, false, false, false, false, false, false, false, false, false, false, false, false, false, false, false, false, false, false, false, false, false] (by kernel_rfl) rfl rfl ⟨((HB.out.cell (World.block_lt_of_cell? w _ hw185_0)).trans hw185_0), ((HB.out.cell (World.block_lt_of_cell? w _ hw194_0)).trans hw194_0), ((HB.out.cell (World.block_lt_of_cell? w _ hw195_0)).trans hw195_0), ((HB.out.cell (World.block_lt_of_cell? w _ hw195_1)).trans hw195_1), ((HB.out.cell (World.block_lt_of_cell? w _ hw195_2)).trans hw195_2), ((HB.out.cell (World.block_lt_of_cell? w _ hw195_3)).trans hw195_3), ((HB.out.cell (World.block_lt_of_cell? w _ hw195_4)).trans hw195_4), ((HB.out.cell (World.block_lt_of_cell? w _ hw195_5)).trans hw195_5), ((HB.out.cell (World.block_lt_of_cell? w _ hw195_6)).trans hw195_6), ((HB.out.cell (World.block_lt_of_cell? w _ hw196_0)).trans hw196_0), ((HB.out.cell (World.block_lt_of_cell? w _ hw197_0)).trans hw197_0), ((HB.out.cell (World.block_lt_of_cell? w _ hw197_1)).trans hw197_1), ((HB.out.cell (World.block_lt_of_cell? w _ hw197_2)).trans hw197_2), ((HB.out.cell (World.block_lt_of_cell? w _ hw197_3)).trans hw197_3), ((HB.out.cell (World.block_lt_of_cell? w _ hw197_4)).trans hw197_4), ((HB.out.cell (World.block_lt_of_cell? w _ hw197_5)).trans hw197_5), ((HB.out.cell (World.block_lt_of_cell? w _ hw197_6)).trans hw197_6)⟩ (fun hHeld => ?_); refine with_tabW tumbrelref09_Legal.tab6 tumbrelref09_Legal.bits6 (fun HT_ HW_ => ?_)
               generalize wr.drew = w32 at HB hx185_0 hx194_0 hx195_0 hx195_1 hx195_2 hx195_3 hx195_4 hx195_5 hx195_6 hx196_0 hx197_0 hx197_1 hx197_2 hx197_3 hx197_4 hx197_5 hx197_6 hHeld ⊢
               refine pz_ 0 (some 31) (dA_ 47 1) HT_ (h := ?_)
               refine pz_ 1 (some 32) (dA_ 47 3) HT_ (h := ?_)
               refine pz_ 2 (some 33) (dA_ 47 7) HT_ (h := ?_)
               refine pz_ 3 (some 34) (dA_ 47 15) HT_ (h := ?_)
               refine take_ (i := 4) (N := some 35) (v := ?_) (a' := ?_) (dA_ 47 31) rfl rfl (take_ofW HT_.out HW_.out (by kernel_rfl)) (fun _ _ _ h => h) (Or.inl ⟨by rfl, ?_⟩) hHeld ?_ ?_
               rotate_left
               ·rintro w' ⟨s0, s1, s2, s3, s4, s5, s6, s7, s8, s9, s10, s11, s12, s13, s14, s15, s16⟩
                go_simp
                with_reducible rfl
               rotate_left
               ·simp only [Act.put, List.setIfInBounds_toArray, List.set_cons_zero, List.set_cons_succ, i64_w, i32_w]
                rfl
               refine one_ (i := 5) (N := some 36) (dA_ 47 63) rfl rfl (one_of HT_.out (by kernel_rfl)) (by decide) (fun K hK => ?_)
               refine goes_ Try.func87 (by kernel_rfl) rfl #[.slice (some ad195) l0.length c0, .int .i64 (rd l1 x28_2)] (by rfl) rfl rfl kz8_2 ?_
               with_reducible refine (tumbrelref09_state.calls _ _ l0 (rd l1 x28_2) true _ ?side1 ?side2 A11.out).mono ?_
               (case side1 => repeat (first | exact (Kd.C_below HR0.out HB.out) | (with_reducible refine Kd.C_alloc ?_ _) | (with_reducible refine Kd.C_drewN ?_ _) | (with_reducible refine Kd.C_drew ?_)))
               (case side2 => exact HC0.out)
               rintro e w' ⟨rfl, ⟨nd, rfl⟩⟩
               refine ⟨_, rfl, ?_⟩
               refine hK.out _ _ ⟨((HB.out.cell (World.block_lt_of_cell? w _ hw185_0)).trans hw185_0), ((HB.out.cell (World.block_lt_of_cell? w _ hw194_0)).trans hw194_0), ((HB.out.cell (World.block_lt_of_cell? w _ hw195_0)).trans hw195_0), ((HB.out.cell (World.block_lt_of_cell? w _ hw195_1)).trans hw195_1), ((HB.out.cell (World.block_lt_of_cell? w _ hw195_2)).trans hw195_2), ((HB.out.cell (World.block_lt_of_cell? w _ hw195_3)).trans hw195_3), ((HB.out.cell (World.block_lt_of_cell? w _ hw195_4)).trans hw195_4), ((HB.out.cell (World.block_lt_of_cell? w _ hw195_5)).trans hw195_5), ((HB.out.cell (World.block_lt_of_cell? w _ hw195_6)).trans hw195_6), ((HB.out.cell (World.block_lt_of_cell? w _ hw196_0)).trans hw196_0), ((HB.out.cell (World.block_lt_of_cell? w _ hw197_0)).trans hw197_0), ((HB.out.cell (World.block_lt_of_cell? w _ hw197_1)).trans hw197_1), ((HB.out.cell (World.block_lt_of_cell? w _ hw197_2)).trans hw197_2), ((HB.out.cell (World.block_lt_of_cell? w _ hw197_3)).trans hw197_3), ((HB.out.cell (World.block_lt_of_cell? w _ hw197_4)).trans hw197_4), ((HB.out.cell (World.block_lt_of_cell? w _ hw197_5)).trans hw197_5), ((HB.out.cell (World.block_lt_of_cell? w _ hw197_6)).trans hw197_6)⟩ (fun hHeld => ?_)
               clear hK K
               refine norm_ (a' := ?_) ?_ ?_
               rotate_left
               ·show Act.put _ (some 36) _ = _
                simp only [Act.put, List.setIfInBounds_toArray, List.set_cons_zero, List.set_cons_succ, i64_w, i32_w]
                rfl
               refine pz_ 6 (some 37) (dA_ 47 127) HT_ (h := ?_)
               refine pz_ 7 (some 38) (dA_ 47 255) HT_ (h := ?_)
               refine pz_ 8 (some 39) (dA_ 47 511) HT_ (h := ?_)
               refine pz_ 9 (some 40) (dA_ 47 1023) HT_ (h := ?_)
               refine pz_ 10 (some 41) (dA_ 47 2047) HT_ (h := ?_)
               refine pu_ 11 (some 42) (dA_ 47 4095) HT_ (h := ?_)
               refine pu_ 12 (some 43) (dA_ 47 8191) HT_ (h := ?_)
               refine pu_ 13 (some 44) (dA_ 47 16383) HT_ (h := ?_)
               refine pu_ 14 (some 45) (dA_ 47 32767) HT_ (h := ?_)
               refine pu_ 15 (some 46) (dA_ 47 65535) HT_ (h := ?_)
               refine pu_ 16 (some 47) (dA_ 47 131071) HT_ (h := ?_)
               refine pu_ 17 (some 48) (dA_ 47 262143) HT_ (h := ?_)
               refine pu_ 18 (some 49) (dA_ 47 524287) HT_ (h := ?_)
               refine pu_ 19 (some 50) (dA_ 47 1048575) HT_ (h := ?_)
               refine pu_ 20 (some 51) (dA_ 47 2097151) HT_ (h := ?_)
               refine pz_ 21 (some 52) (dA_ 47 4194303) HT_ (h := ?_)
               refine pz_ 22 (some 53) (dA_ 47 8388607) HT_ (h := ?_)
               refine pz_ 23 (some 54) (dA_ 47 16777215) HT_ (h := ?_)
               refine pz_ 24 (some 55) (dA_ 47 33554431) HT_ (h := ?_)
               refine pz_ 25 (some 56) (dA_ 47 67108863) HT_ (h := ?_)
               refine pz_ 26 (some 57) (dA_ 47 134217727) HT_ (h := ?_)
               refine pz_ 27 (some 58) (dA_ 47 268435455) HT_ (h := ?_)
               refine take_ (i := 28) (N := some 59) (v := ?_) (a' := ?_) (dA_ 47 536870911) rfl rfl (take_ofW HT_.out HW_.out (by kernel_rfl)) (fun _ _ _ h => h) (Or.inl ⟨by rfl, ?_⟩) hHeld ?_ ?_
               rotate_left
               ·rintro w' ⟨s0, s1, s2, s3, s4, s5, s6, s7, s8, s9, s10, s11, s12, s13, s14, s15, s16⟩
                go_simp
                with_reducible rfl
               rotate_left
               ·simp only [Act.put, List.setIfInBounds_toArray, List.set_cons_zero, List.set_cons_succ, i64_w, i32_w]
                rfl
               refine pz_ 29 (some 60) (dA_ 47 1073741823) HT_ (h := ?_)
               refine pz_ 30 (some 61) (dA_ 47 2147483647) HT_ (h := ?_)
               refine take_ (i := 31) (N := some 62) (v := ?_) (a' := ?_) (dA_ 47 4294967295) rfl rfl (take_ofW HT_.out HW_.out (by kernel_rfl)) (fun _ _ _ h => h) (Or.inl ⟨by rfl, ?_⟩) hHeld ?_ ?_
               rotate_left
               ·rintro w' ⟨s0, s1, s2, s3, s4, s5, s6, s7, s8, s9, s10, s11, s12, s13, s14, s15, s16⟩
                go_simp
                with_reducible rfl
               rotate_left
               ·simp only [Act.put, List.setIfInBounds_toArray, List.set_cons_zero, List.set_cons_succ, i64_w, i32_w]
                rfl
               refine pz_ 32 (some 63) (dA_ 47 8589934591) HT_ (h := ?_)
               refine pz_ 33 (some 64) (dA_ 47 17179869183) HT_ (h := ?_)
               refine pz_ 34 (some 65) (dA_ 47 34359738367) HT_ (h := ?_)
               refine pz_ 35 (some 66) (dA_ 47 68719476735) HT_ (h := ?_)
               refine pz_ 36 (some 67) (dA_ 47 137438953471) HT_ (h := ?_)
               refine pz_ 37 (some 68) (dA_ 47 274877906943) HT_ (h := ?_)
               refine pz_ 38 (some 69) (dA_ 47 549755813887) HT_ (h := ?_)
               refine take_ (i := 39) (N := some 70) (v := ?_) (a' := ?_) (dA_ 47 1099511627775) rfl rfl (take_ofW HT_.out HW_.out (by kernel_rfl)) (fun _ _ _ h => h) (Or.inl ⟨by rfl, ?_⟩) hHeld ?_ ?_
               rotate_left
               ·rintro w' ⟨s0, s1, s2, s3, s4, s5, s6, s7, s8, s9, s10, s11, s12, s13, s14, s15, s16⟩
                go_simp
                with_reducible rfl
               rotate_left
               ·simp only [Act.put, List.setIfInBounds_toArray, List.set_cons_zero, List.set_cons_succ, i64_w, i32_w]
                rfl
               refine pz_ 40 (some 71) (dA_ 47 2199023255551) HT_ (h := ?_)
               refine pz_ 41 (some 72) (dA_ 47 4398046511103) HT_ (h := ?_)
               refine take_ (i := 42) (N := some 73) (v := ?_) (a' := ?_) (dA_ 47 8796093022207) rfl rfl (take_ofW HT_.out HW_.out (by kernel_rfl)) (fun _ _ _ h => h) (Or.inl ⟨by rfl, ?_⟩) hHeld ?_ ?_
               rotate_left
               ·rintro w' ⟨s0, s1, s2, s3, s4, s5, s6, s7, s8, s9, s10, s11, s12, s13, s14, s15, s16⟩
                go_simp
                with_reducible rfl
               rotate_left
               ·simp only [Act.put, List.setIfInBounds_toArray, List.set_cons_zero, List.set_cons_succ, i64_w, i32_w]
                rfl
               refine one_ (i := 43) (N := some 74) (dA_ 47 17592186044415) rfl rfl (one_of HT_.out (by kernel_rfl)) (by decide) (fun K hK => ?_)
               refine goes_ Try.func88 (by kernel_rfl) rfl #[.slice (some ad185) l1.length c1, .int .i64 ((rd_T140 l0 (rd l1 x28_2)).f1)] (by rfl) rfl rfl kz8_2 ?_
               with_reducible refine (tumbrelref09_has.calls k2 _ _ l1 ((rd_T140 l0 (rd l1 x28_2)).f1) true _ ?side1 ?side2 A30.out).mono ?_
               (case side1 => repeat (first | exact (Kd.C_below HR1.out kz8_4) | (with_reducible refine Kd.C_alloc ?_ _) | (with_reducible refine Kd.C_drewN ?_ _) | (with_reducible refine Kd.C_drew ?_)))
               (case side2 => exact HC1.out)
               rintro e w' ⟨rfl, ⟨nd, rfl⟩⟩
               refine ⟨_, rfl, ?_⟩
               refine hK.out _ _ ⟨((HB.out.cell (World.block_lt_of_cell? w _ hw185_0)).trans hw185_0), ((HB.out.cell (World.block_lt_of_cell? w _ hw194_0)).trans hw194_0), ((HB.out.cell (World.block_lt_of_cell? w _ hw195_0)).trans hw195_0), ((HB.out.cell (World.block_lt_of_cell? w _ hw195_1)).trans hw195_1), ((HB.out.cell (World.block_lt_of_cell? w _ hw195_2)).trans hw195_2), ((HB.out.cell (World.block_lt_of_cell? w _ hw195_3)).trans hw195_3), ((HB.out.cell (World.block_lt_of_cell? w _ hw195_4)).trans hw195_4), ((HB.out.cell (World.block_lt_of_cell? w _ hw195_5)).trans hw195_5), ((HB.out.cell (World.block_lt_of_cell? w _ hw195_6)).trans hw195_6), ((HB.out.cell (World.block_lt_of_cell? w _ hw196_0)).trans hw196_0), ((HB.out.cell (World.block_lt_of_cell? w _ hw197_0)).trans hw197_0), ((HB.out.cell (World.block_lt_of_cell? w _ hw197_1)).trans hw197_1), ((HB.out.cell (World.block_lt_of_cell? w _ hw197_2)).trans hw197_2), ((HB.out.cell (World.block_lt_of_cell? w _ hw197_3)).trans hw197_3), ((HB.out.cell (World.block_lt_of_cell? w _ hw197_4)).trans hw197_4), ((HB.out.cell (World.block_lt_of_cell? w _ hw197_5)).trans hw197_5), ((HB.out.cell (World.block_lt_of_cell? w _ hw197_6)).trans hw197_6)⟩ (fun hHeld => ?_)
               clear hK K
               refine norm_ (a' := ?_) ?_ ?_
               rotate_left
               ·show Act.put _ (some 74) _ = _
                simp only [Act.put, List.setIfInBounds_toArray, List.set_cons_zero, List.set_cons_succ, i64_w, i32_w]
                rfl
               refine pz_ 44 (some 75) (dA_ 47 35184372088831) HT_ (h := ?_)
               refine pz_ 45 (some 76) (dA_ 47 70368744177663) HT_ (h := ?_)
               refine pz_ 46 (some 77) (dA_ 47 140737488355327) HT_ (h := ?_)
               refine done_ (done_of HT_.out (by kernel_rfl)) ?_
               try go_wp2
               go_roundg k2
               case measure => have := HJ2.out; have := HK2.out; omega
               case rel => exact ⟨(wrap64 (x28_2 + 1)), kz8_3, H', ⟨by have := HJ2.out; have := HK2.out; omega⟩, ⟨by repeat (first | (with_reducible first | exact HB.out | apply below_alloc | apply pw_below_drewN | apply below_drew1) | exact HB.out)⟩⟩
              ·replace c31 := Bool.eq_false_iff.mpr c31
               subst c31
               have H1 : (some false) = some r := by rw [if_neg (show ¬ (false = true) by decide)] at H; exact H
               clear H
               have H := H1
               clear H1
               obtain rfl := Option.some.inj H
               try go_wp2
               have n0_ := Aside0.mk (below_drew1 HB.out)
               clear HB
               have HB := n0_
               clear n0_
               have p185 : 0 ≤ (x28_2 : Int) := of_decide_eq_true kz8_1
               have q185 : x28_2 < (l1.length : Int) := of_decide_eq_true kz8_1
               obtain ⟨ad185, e185, hx185_0⟩ := Kd.at_int HR1.out x28_2 p185 q185
               have hw185_0 := hx185_0
               cases e185
               replace hx185_0 := (HB.out.cell (World.block_lt_of_cell? w _ hx185_0)).trans hx185_0
               replace p185 := eq_true p185
               replace q185 := eq_true q185
               have p194 : 0 ≤ (x28_2 : Int) := of_decide_eq_true kz8_1
               have q194 : x28_2 < (l1.length : Int) := of_decide_eq_true kz8_1
               obtain ⟨ad194, e194, hx194_0⟩ := Kd.at_int HR1.out x28_2 p194 q194
               have hw194_0 := hx194_0
               obtain rfl : ad185 = ad194 := (by injection e194)
               replace hx194_0 := (HB.out.cell (World.block_lt_of_cell? w _ hx194_0)).trans hx194_0
               replace p194 := eq_true p194
               replace q194 := eq_true q194
               have p195 : 0 ≤ ((rd l1 x28_2) : Int) := of_decide_eq_true kz8_1
               have q195 : (rd l1 x28_2) < (l0.length : Int) := of_decide_eq_true kz8_1
               obtain ⟨ad195, e195, hx195_0, hx195_1, hx195_2, hx195_3, hx195_4, hx195_5, hx195_6⟩ := at_T140 HR0.out (rd l1 x28_2) p195 q195
               have hw195_6 := hx195_6
               have hw195_5 := hx195_5
               have hw195_4 := hx195_4
               have hw195_3 := hx195_3
               have hw195_2 := hx195_2
               have hw195_1 := hx195_1
               have hw195_0 := hx195_0
               cases e195
               replace hx195_0 := (HB.out.cell (World.block_lt_of_cell? w _ hx195_0)).trans hx195_0
               replace hx195_1 := (HB.out.cell (World.block_lt_of_cell? w _ hx195_1)).trans hx195_1
               replace hx195_2 := (HB.out.cell (World.block_lt_of_cell? w _ hx195_2)).trans hx195_2
               replace hx195_3 := (HB.out.cell (World.block_lt_of_cell? w _ hx195_3)).trans hx195_3
               replace hx195_4 := (HB.out.cell (World.block_lt_of_cell? w _ hx195_4)).trans hx195_4
               replace hx195_5 := (HB.out.cell (World.block_lt_of_cell? w _ hx195_5)).trans hx195_5
               replace hx195_6 := (HB.out.cell (World.block_lt_of_cell? w _ hx195_6)).trans hx195_6
               replace p195 := eq_true p195
               replace q195 := eq_true q195
               have p196 : 0 ≤ (x28_2 : Int) := of_decide_eq_true kz8_1
               have q196 : x28_2 < (l1.length : Int) := of_decide_eq_true kz8_1
               obtain ⟨ad196, e196, hx196_0⟩ := Kd.at_int HR1.out x28_2 p196 q196
               have hw196_0 := hx196_0
               obtain rfl : ad185 = ad196 := (by injection e196)
               replace hx196_0 := (HB.out.cell (World.block_lt_of_cell? w _ hx196_0)).trans hx196_0
               replace p196 := eq_true p196
               replace q196 := eq_true q196
               have p197 : 0 ≤ ((rd l1 x28_2) : Int) := of_decide_eq_true kz8_1
               have q197 : (rd l1 x28_2) < (l0.length : Int) := of_decide_eq_true kz8_1
               obtain ⟨ad197, e197, hx197_0, hx197_1, hx197_2, hx197_3, hx197_4, hx197_5, hx197_6⟩ := at_T140 HR0.out (rd l1 x28_2) p197 q197
               have hw197_6 := hx197_6
               have hw197_5 := hx197_5
               have hw197_4 := hx197_4
               have hw197_3 := hx197_3
               have hw197_2 := hx197_2
               have hw197_1 := hx197_1
               have hw197_0 := hx197_0
               obtain rfl : ad195 = ad197 := (by injection e197)
               replace hx197_0 := (HB.out.cell (World.block_lt_of_cell? w _ hx197_0)).trans hx197_0
               replace hx197_1 := (HB.out.cell (World.block_lt_of_cell? w _ hx197_1)).trans hx197_1
               replace hx197_2 := (HB.out.cell (World.block_lt_of_cell? w _ hx197_2)).trans hx197_2
               replace hx197_3 := (HB.out.cell (World.block_lt_of_cell? w _ hx197_3)).trans hx197_3
               replace hx197_4 := (HB.out.cell (World.block_lt_of_cell? w _ hx197_4)).trans hx197_4
               replace hx197_5 := (HB.out.cell (World.block_lt_of_cell? w _ hx197_5)).trans hx197_5
               replace hx197_6 := (HB.out.cell (World.block_lt_of_cell? w _ hx197_6)).trans hx197_6
               replace p197 := eq_true p197
               replace q197 := eq_true q197
               refine start_ (n := 47) (S := fun w' => w'.cell? (ad185.add (x28_2).toNat) = some (.int .i64 (rd l1 x28_2)) ∧ w'.cell? (ad185.add (x28_2).toNat) = some (.int .i64 (rd l1 x28_2)) ∧ w'.cell? (ad195.add (((rd l1 x28_2)).toNat * 7)) = some (.string ((rd_T140 l0 (rd l1 x28_2)).f0)) ∧ w'.cell? ⟨(ad195.add (((rd l1 x28_2)).toNat * 7)).block, (ad195.add (((rd l1 x28_2)).toNat * 7)).off + 1, none⟩ = some (.int .i64 ((rd_T140 l0 (rd l1 x28_2)).f1)) ∧ w'.cell? ⟨(ad195.add (((rd l1 x28_2)).toNat * 7)).block, (ad195.add (((rd l1 x28_2)).toNat * 7)).off + 2, none⟩ = some (.int .i64 ((rd_T140 l0 (rd l1 x28_2)).f2)) ∧ w'.cell? ⟨(ad195.add (((rd l1 x28_2)).toNat * 7)).block, (ad195.add (((rd l1 x28_2)).toNat * 7)).off + 3, none⟩ = some (.int .i64 ((rd_T140 l0 (rd l1 x28_2)).f3)) ∧ w'.cell? ⟨(ad195.add (((rd l1 x28_2)).toNat * 7)).block, (ad195.add (((rd l1 x28_2)).toNat * 7)).off + 4, none⟩ = some (.bool ((rd_T140 l0 (rd l1 x28_2)).f4)) ∧ w'.cell? ⟨(ad195.add (((rd l1 x28_2)).toNat * 7)).block, (ad195.add (((rd l1 x28_2)).toNat * 7)).off + 5, none⟩ = some (.bool ((rd_T140 l0 (rd l1 x28_2)).f5)) ∧ w'.cell? ⟨(ad195.add (((rd l1 x28_2)).toNat * 7)).block, (ad195.add (((rd l1 x28_2)).toNat * 7)).off + 6, none⟩ = some (.bool ((rd_T140 l0 (rd l1 x28_2)).f6)) ∧ w'.cell? (ad185.add (x28_2).toNat) = some (.int .i64 (rd l1 x28_2)) ∧ w'.cell? (ad195.add (((rd l1 x28_2)).toNat * 7)) = some (.string ((rd_T140 l0 (rd l1 x28_2)).f0)) ∧ w'.cell? ⟨(ad195.add (((rd l1 x28_2)).toNat * 7)).block, (ad195.add (((rd l1 x28_2)).toNat * 7)).off + 1, none⟩ = some (.int .i64 ((rd_T140 l0 (rd l1 x28_2)).f1)) ∧ w'.cell? ⟨(ad195.add (((rd l1 x28_2)).toNat * 7)).block, (ad195.add (((rd l1 x28_2)).toNat * 7)).off + 2, none⟩ = some (.int .i64 ((rd_T140 l0 (rd l1 x28_2)).f2)) ∧ w'.cell? ⟨(ad195.add (((rd l1 x28_2)).toNat * 7)).block, (ad195.add (((rd l1 x28_2)).toNat * 7)).off + 3, none⟩ = some (.int .i64 ((rd_T140 l0 (rd l1 x28_2)).f3)) ∧ w'.cell? ⟨(ad195.add (((rd l1 x28_2)).toNat * 7)).block, (ad195.add (((rd l1 x28_2)).toNat * 7)).off + 4, none⟩ = some (.bool ((rd_T140 l0 (rd l1 x28_2)).f4)) ∧ w'.cell? ⟨(ad195.add (((rd l1 x28_2)).toNat * 7)).block, (ad195.add (((rd l1 x28_2)).toNat * 7)).off + 5, none⟩ = some (.bool ((rd_T140 l0 (rd l1 x28_2)).f5)) ∧ w'.cell? ⟨(ad195.add (((rd l1 x28_2)).toNat * 7)).block, (ad195.add (((rd l1 x28_2)).toNat * 7)).off + 6, none⟩ = some (.bool ((rd_T140 l0 (rd l1 x28_2)).f6))) (ds := []) #[false, false, false, false, false, false, false, false, false, false, false, false, false, false, false, false, false, false, false, false, false, false, false, false, false, false, false, false, false, false, false, false, false, false, false, false, false, false, false, false, false, false, false, false, false, false, false] (by kernel_rfl) rfl rfl ⟨((HB.out.cell (World.block_lt_of_cell? w _ hw185_0)).trans hw185_0), ((HB.out.cell (World.block_lt_of_cell? w _ hw194_0)).trans hw194_0), ((HB.out.cell (World.block_lt_of_cell? w _ hw195_0)).trans hw195_0), ((HB.out.cell (World.block_lt_of_cell? w _ hw195_1)).trans hw195_1), ((HB.out.cell (World.block_lt_of_cell? w _ hw195_2)).trans hw195_2), ((HB.out.cell (World.block_lt_of_cell? w _ hw195_3)).trans hw195_3), ((HB.out.cell (World.block_lt_of_cell? w _ hw195_4)).trans hw195_4), ((HB.out.cell (World.block_lt_of_cell? w _ hw195_5)).trans hw195_5), ((HB.out.cell (World.block_lt_of_cell? w _ hw195_6)).trans hw195_6), ((HB.out.cell (World.block_lt_of_cell? w _ hw196_0)).trans hw196_0), ((HB.out.cell (World.block_lt_of_cell? w _ hw197_0)).trans hw197_0), ((HB.out.cell (World.block_lt_of_cell? w _ hw197_1)).trans hw197_1), ((HB.out.cell (World.block_lt_of_cell? w _ hw197_2)).trans hw197_2), ((HB.out.cell (World.block_lt_of_cell? w _ hw197_3)).trans hw197_3), ((HB.out.cell (World.block_lt_of_cell? w _ hw197_4)).trans hw197_4), ((HB.out.cell (World.block_lt_of_cell? w _ hw197_5)).trans hw197_5), ((HB.out.cell (World.block_lt_of_cell? w _ hw197_6)).trans hw197_6)⟩ (fun hHeld => ?_); refine with_tabW tumbrelref09_Legal.tab6 tumbrelref09_Legal.bits6 (fun HT_ HW_ => ?_)
               generalize wr.drew = w33 at HB hx185_0 hx194_0 hx195_0 hx195_1 hx195_2 hx195_3 hx195_4 hx195_5 hx195_6 hx196_0 hx197_0 hx197_1 hx197_2 hx197_3 hx197_4 hx197_5 hx197_6 hHeld ⊢
               refine pz_ 0 (some 31) (dA_ 47 1) HT_ (h := ?_)
               refine pz_ 1 (some 32) (dA_ 47 3) HT_ (h := ?_)
               refine pz_ 2 (some 33) (dA_ 47 7) HT_ (h := ?_)
               refine pz_ 3 (some 34) (dA_ 47 15) HT_ (h := ?_)
               refine take_ (i := 4) (N := some 35) (v := ?_) (a' := ?_) (dA_ 47 31) rfl rfl (take_ofW HT_.out HW_.out (by kernel_rfl)) (fun _ _ _ h => h) (Or.inl ⟨by rfl, ?_⟩) hHeld ?_ ?_
               rotate_left
               ·rintro w' ⟨s0, s1, s2, s3, s4, s5, s6, s7, s8, s9, s10, s11, s12, s13, s14, s15, s16⟩
                go_simp
                with_reducible rfl
               rotate_left
               ·simp only [Act.put, List.setIfInBounds_toArray, List.set_cons_zero, List.set_cons_succ, i64_w, i32_w]
                rfl
               refine one_ (i := 5) (N := some 36) (dA_ 47 63) rfl rfl (one_of HT_.out (by kernel_rfl)) (by decide) (fun K hK => ?_)
               refine goes_ Try.func87 (by kernel_rfl) rfl #[.slice (some ad195) l0.length c0, .int .i64 (rd l1 x28_2)] (by rfl) rfl rfl kz8_2 ?_
               with_reducible refine (tumbrelref09_state.calls _ _ l0 (rd l1 x28_2) true _ ?side1 ?side2 A11.out).mono ?_
               (case side1 => repeat (first | exact (Kd.C_below HR0.out HB.out) | (with_reducible refine Kd.C_alloc ?_ _) | (with_reducible refine Kd.C_drewN ?_ _) | (with_reducible refine Kd.C_drew ?_)))
               (case side2 => exact HC0.out)
               rintro e w' ⟨rfl, ⟨nd, rfl⟩⟩
               refine ⟨_, rfl, ?_⟩
               refine hK.out _ _ ⟨((HB.out.cell (World.block_lt_of_cell? w _ hw185_0)).trans hw185_0), ((HB.out.cell (World.block_lt_of_cell? w _ hw194_0)).trans hw194_0), ((HB.out.cell (World.block_lt_of_cell? w _ hw195_0)).trans hw195_0), ((HB.out.cell (World.block_lt_of_cell? w _ hw195_1)).trans hw195_1), ((HB.out.cell (World.block_lt_of_cell? w _ hw195_2)).trans hw195_2), ((HB.out.cell (World.block_lt_of_cell? w _ hw195_3)).trans hw195_3), ((HB.out.cell (World.block_lt_of_cell? w _ hw195_4)).trans hw195_4), ((HB.out.cell (World.block_lt_of_cell? w _ hw195_5)).trans hw195_5), ((HB.out.cell (World.block_lt_of_cell? w _ hw195_6)).trans hw195_6), ((HB.out.cell (World.block_lt_of_cell? w _ hw196_0)).trans hw196_0), ((HB.out.cell (World.block_lt_of_cell? w _ hw197_0)).trans hw197_0), ((HB.out.cell (World.block_lt_of_cell? w _ hw197_1)).trans hw197_1), ((HB.out.cell (World.block_lt_of_cell? w _ hw197_2)).trans hw197_2), ((HB.out.cell (World.block_lt_of_cell? w _ hw197_3)).trans hw197_3), ((HB.out.cell (World.block_lt_of_cell? w _ hw197_4)).trans hw197_4), ((HB.out.cell (World.block_lt_of_cell? w _ hw197_5)).trans hw197_5), ((HB.out.cell (World.block_lt_of_cell? w _ hw197_6)).trans hw197_6)⟩ (fun hHeld => ?_)
               clear hK K
               refine norm_ (a' := ?_) ?_ ?_
               rotate_left
               ·show Act.put _ (some 36) _ = _
                simp only [Act.put, List.setIfInBounds_toArray, List.set_cons_zero, List.set_cons_succ, i64_w, i32_w]
                rfl
               refine pz_ 6 (some 37) (dA_ 47 127) HT_ (h := ?_)
               refine pz_ 7 (some 38) (dA_ 47 255) HT_ (h := ?_)
               refine pz_ 8 (some 39) (dA_ 47 511) HT_ (h := ?_)
               refine pz_ 9 (some 40) (dA_ 47 1023) HT_ (h := ?_)
               refine pz_ 10 (some 41) (dA_ 47 2047) HT_ (h := ?_)
               refine pu_ 11 (some 42) (dA_ 47 4095) HT_ (h := ?_)
               refine pu_ 12 (some 43) (dA_ 47 8191) HT_ (h := ?_)
               refine pu_ 13 (some 44) (dA_ 47 16383) HT_ (h := ?_)
               refine pu_ 14 (some 45) (dA_ 47 32767) HT_ (h := ?_)
               refine pu_ 15 (some 46) (dA_ 47 65535) HT_ (h := ?_)
               refine pu_ 16 (some 47) (dA_ 47 131071) HT_ (h := ?_)
               refine pu_ 17 (some 48) (dA_ 47 262143) HT_ (h := ?_)
               refine pu_ 18 (some 49) (dA_ 47 524287) HT_ (h := ?_)
               refine pu_ 19 (some 50) (dA_ 47 1048575) HT_ (h := ?_)
               refine pu_ 20 (some 51) (dA_ 47 2097151) HT_ (h := ?_)
               refine pz_ 21 (some 52) (dA_ 47 4194303) HT_ (h := ?_)
               refine pz_ 22 (some 53) (dA_ 47 8388607) HT_ (h := ?_)
               refine pz_ 23 (some 54) (dA_ 47 16777215) HT_ (h := ?_)
               refine pz_ 24 (some 55) (dA_ 47 33554431) HT_ (h := ?_)
               refine pz_ 25 (some 56) (dA_ 47 67108863) HT_ (h := ?_)
               refine pz_ 26 (some 57) (dA_ 47 134217727) HT_ (h := ?_)
               refine pz_ 27 (some 58) (dA_ 47 268435455) HT_ (h := ?_)
               refine take_ (i := 28) (N := some 59) (v := ?_) (a' := ?_) (dA_ 47 536870911) rfl rfl (take_ofW HT_.out HW_.out (by kernel_rfl)) (fun _ _ _ h => h) (Or.inl ⟨by rfl, ?_⟩) hHeld ?_ ?_
               rotate_left
               ·rintro w' ⟨s0, s1, s2, s3, s4, s5, s6, s7, s8, s9, s10, s11, s12, s13, s14, s15, s16⟩
                go_simp
                with_reducible rfl
               rotate_left
               ·simp only [Act.put, List.setIfInBounds_toArray, List.set_cons_zero, List.set_cons_succ, i64_w, i32_w]
                rfl
               refine pz_ 29 (some 60) (dA_ 47 1073741823) HT_ (h := ?_)
               refine pz_ 30 (some 61) (dA_ 47 2147483647) HT_ (h := ?_)
               refine take_ (i := 31) (N := some 62) (v := ?_) (a' := ?_) (dA_ 47 4294967295) rfl rfl (take_ofW HT_.out HW_.out (by kernel_rfl)) (fun _ _ _ h => h) (Or.inl ⟨by rfl, ?_⟩) hHeld ?_ ?_
               rotate_left
               ·rintro w' ⟨s0, s1, s2, s3, s4, s5, s6, s7, s8, s9, s10, s11, s12, s13, s14, s15, s16⟩
                go_simp
                with_reducible rfl
               rotate_left
               ·simp only [Act.put, List.setIfInBounds_toArray, List.set_cons_zero, List.set_cons_succ, i64_w, i32_w]
                rfl
               refine pz_ 32 (some 63) (dA_ 47 8589934591) HT_ (h := ?_)
               refine pz_ 33 (some 64) (dA_ 47 17179869183) HT_ (h := ?_)
               refine pz_ 34 (some 65) (dA_ 47 34359738367) HT_ (h := ?_)
               refine pz_ 35 (some 66) (dA_ 47 68719476735) HT_ (h := ?_)
               refine pz_ 36 (some 67) (dA_ 47 137438953471) HT_ (h := ?_)
               refine pz_ 37 (some 68) (dA_ 47 274877906943) HT_ (h := ?_)
               refine pz_ 38 (some 69) (dA_ 47 549755813887) HT_ (h := ?_)
               refine take_ (i := 39) (N := some 70) (v := ?_) (a' := ?_) (dA_ 47 1099511627775) rfl rfl (take_ofW HT_.out HW_.out (by kernel_rfl)) (fun _ _ _ h => h) (Or.inl ⟨by rfl, ?_⟩) hHeld ?_ ?_
               rotate_left
               ·rintro w' ⟨s0, s1, s2, s3, s4, s5, s6, s7, s8, s9, s10, s11, s12, s13, s14, s15, s16⟩
                go_simp
                with_reducible rfl
               rotate_left
               ·simp only [Act.put, List.setIfInBounds_toArray, List.set_cons_zero, List.set_cons_succ, i64_w, i32_w]
                rfl
               refine pz_ 40 (some 71) (dA_ 47 2199023255551) HT_ (h := ?_)
               refine pz_ 41 (some 72) (dA_ 47 4398046511103) HT_ (h := ?_)
               refine take_ (i := 42) (N := some 73) (v := ?_) (a' := ?_) (dA_ 47 8796093022207) rfl rfl (take_ofW HT_.out HW_.out (by kernel_rfl)) (fun _ _ _ h => h) (Or.inl ⟨by rfl, ?_⟩) hHeld ?_ ?_
               rotate_left
               ·rintro w' ⟨s0, s1, s2, s3, s4, s5, s6, s7, s8, s9, s10, s11, s12, s13, s14, s15, s16⟩
                go_simp
                with_reducible rfl
               rotate_left
               ·simp only [Act.put, List.setIfInBounds_toArray, List.set_cons_zero, List.set_cons_succ, i64_w, i32_w]
                rfl
               refine one_ (i := 43) (N := some 74) (dA_ 47 17592186044415) rfl rfl (one_of HT_.out (by kernel_rfl)) (by decide) (fun K hK => ?_)
               refine goes_ Try.func88 (by kernel_rfl) rfl #[.slice (some ad185) l1.length c1, .int .i64 ((rd_T140 l0 (rd l1 x28_2)).f1)] (by rfl) rfl rfl kz8_2 ?_
               with_reducible refine (tumbrelref09_has.calls k2 _ _ l1 ((rd_T140 l0 (rd l1 x28_2)).f1) false _ ?side1 ?side2 A30.out).mono ?_
               (case side1 => repeat (first | exact (Kd.C_below HR1.out kz8_4) | (with_reducible refine Kd.C_alloc ?_ _) | (with_reducible refine Kd.C_drewN ?_ _) | (with_reducible refine Kd.C_drew ?_)))
               (case side2 => exact HC1.out)
               rintro e w' ⟨rfl, ⟨nd, rfl⟩⟩
               refine ⟨_, rfl, ?_⟩
               refine hK.out _ _ ⟨((HB.out.cell (World.block_lt_of_cell? w _ hw185_0)).trans hw185_0), ((HB.out.cell (World.block_lt_of_cell? w _ hw194_0)).trans hw194_0), ((HB.out.cell (World.block_lt_of_cell? w _ hw195_0)).trans hw195_0), ((HB.out.cell (World.block_lt_of_cell? w _ hw195_1)).trans hw195_1), ((HB.out.cell (World.block_lt_of_cell? w _ hw195_2)).trans hw195_2), ((HB.out.cell (World.block_lt_of_cell? w _ hw195_3)).trans hw195_3), ((HB.out.cell (World.block_lt_of_cell? w _ hw195_4)).trans hw195_4), ((HB.out.cell (World.block_lt_of_cell? w _ hw195_5)).trans hw195_5), ((HB.out.cell (World.block_lt_of_cell? w _ hw195_6)).trans hw195_6), ((HB.out.cell (World.block_lt_of_cell? w _ hw196_0)).trans hw196_0), ((HB.out.cell (World.block_lt_of_cell? w _ hw197_0)).trans hw197_0), ((HB.out.cell (World.block_lt_of_cell? w _ hw197_1)).trans hw197_1), ((HB.out.cell (World.block_lt_of_cell? w _ hw197_2)).trans hw197_2), ((HB.out.cell (World.block_lt_of_cell? w _ hw197_3)).trans hw197_3), ((HB.out.cell (World.block_lt_of_cell? w _ hw197_4)).trans hw197_4), ((HB.out.cell (World.block_lt_of_cell? w _ hw197_5)).trans hw197_5), ((HB.out.cell (World.block_lt_of_cell? w _ hw197_6)).trans hw197_6)⟩ (fun hHeld => ?_)
               clear hK K
               refine norm_ (a' := ?_) ?_ ?_
               rotate_left
               ·show Act.put _ (some 74) _ = _
                simp only [Act.put, List.setIfInBounds_toArray, List.set_cons_zero, List.set_cons_succ, i64_w, i32_w]
                rfl
               refine pz_ 44 (some 75) (dA_ 47 35184372088831) HT_ (h := ?_)
               refine pz_ 45 (some 76) (dA_ 47 70368744177663) HT_ (h := ?_)
               refine pz_ 46 (some 77) (dA_ 47 140737488355327) HT_ (h := ?_)
               refine done_ (done_of HT_.out (by kernel_rfl)) ?_
               try go_wp2
               go_ret
               exact ⟨by first | rfl | (simp [errW_none, errW_some] <;> rfl) | (simp [*, errW_none, errW_some] <;> rfl), by repeat (first | (with_reducible first | exact HB.out | apply below_alloc | apply pw_below_drewN | apply below_drew1) | exact HB.out)⟩
             ·rw [if_neg c29] at H
              have c29b0 : decide (0 ≤ ((rd_T140 l0 (rd l1 x28_2)).f1)) = false := decide_eq_false c29
              clear c29
              have H' := Aside0.mk H
              clear H
              try go_wp2
              have n0_ := Aside0.mk (below_drew1 HB.out)
              clear HB
              have HB := n0_
              clear n0_
              have p185 : 0 ≤ (x28_2 : Int) := of_decide_eq_true kz8_1
              have q185 : x28_2 < (l1.length : Int) := of_decide_eq_true kz8_1
              obtain ⟨ad185, e185, hx185_0⟩ := Kd.at_int HR1.out x28_2 p185 q185
              have hw185_0 := hx185_0
              cases e185
              replace hx185_0 := (HB.out.cell (World.block_lt_of_cell? w _ hx185_0)).trans hx185_0
              replace p185 := eq_true p185
              replace q185 := eq_true q185
              have p194 : 0 ≤ (x28_2 : Int) := of_decide_eq_true kz8_1
              have q194 : x28_2 < (l1.length : Int) := of_decide_eq_true kz8_1
              obtain ⟨ad194, e194, hx194_0⟩ := Kd.at_int HR1.out x28_2 p194 q194
              have hw194_0 := hx194_0
              obtain rfl : ad185 = ad194 := (by injection e194)
              replace hx194_0 := (HB.out.cell (World.block_lt_of_cell? w _ hx194_0)).trans hx194_0
              replace p194 := eq_true p194
              replace q194 := eq_true q194
              have p195 : 0 ≤ ((rd l1 x28_2) : Int) := of_decide_eq_true kz8_1
              have q195 : (rd l1 x28_2) < (l0.length : Int) := of_decide_eq_true kz8_1
              obtain ⟨ad195, e195, hx195_0, hx195_1, hx195_2, hx195_3, hx195_4, hx195_5, hx195_6⟩ := at_T140 HR0.out (rd l1 x28_2) p195 q195
              have hw195_6 := hx195_6
              have hw195_5 := hx195_5
              have hw195_4 := hx195_4
              have hw195_3 := hx195_3
              have hw195_2 := hx195_2
              have hw195_1 := hx195_1
              have hw195_0 := hx195_0
              cases e195
              replace hx195_0 := (HB.out.cell (World.block_lt_of_cell? w _ hx195_0)).trans hx195_0
              replace hx195_1 := (HB.out.cell (World.block_lt_of_cell? w _ hx195_1)).trans hx195_1
              replace hx195_2 := (HB.out.cell (World.block_lt_of_cell? w _ hx195_2)).trans hx195_2
              replace hx195_3 := (HB.out.cell (World.block_lt_of_cell? w _ hx195_3)).trans hx195_3
              replace hx195_4 := (HB.out.cell (World.block_lt_of_cell? w _ hx195_4)).trans hx195_4
              replace hx195_5 := (HB.out.cell (World.block_lt_of_cell? w _ hx195_5)).trans hx195_5
              replace hx195_6 := (HB.out.cell (World.block_lt_of_cell? w _ hx195_6)).trans hx195_6
              replace p195 := eq_true p195
              replace q195 := eq_true q195
              refine start_ (n := 47) (S := fun w' => w'.cell? (ad185.add (x28_2).toNat) = some (.int .i64 (rd l1 x28_2)) ∧ w'.cell? (ad185.add (x28_2).toNat) = some (.int .i64 (rd l1 x28_2)) ∧ w'.cell? (ad195.add (((rd l1 x28_2)).toNat * 7)) = some (.string ((rd_T140 l0 (rd l1 x28_2)).f0)) ∧ w'.cell? ⟨(ad195.add (((rd l1 x28_2)).toNat * 7)).block, (ad195.add (((rd l1 x28_2)).toNat * 7)).off + 1, none⟩ = some (.int .i64 ((rd_T140 l0 (rd l1 x28_2)).f1)) ∧ w'.cell? ⟨(ad195.add (((rd l1 x28_2)).toNat * 7)).block, (ad195.add (((rd l1 x28_2)).toNat * 7)).off + 2, none⟩ = some (.int .i64 ((rd_T140 l0 (rd l1 x28_2)).f2)) ∧ w'.cell? ⟨(ad195.add (((rd l1 x28_2)).toNat * 7)).block, (ad195.add (((rd l1 x28_2)).toNat * 7)).off + 3, none⟩ = some (.int .i64 ((rd_T140 l0 (rd l1 x28_2)).f3)) ∧ w'.cell? ⟨(ad195.add (((rd l1 x28_2)).toNat * 7)).block, (ad195.add (((rd l1 x28_2)).toNat * 7)).off + 4, none⟩ = some (.bool ((rd_T140 l0 (rd l1 x28_2)).f4)) ∧ w'.cell? ⟨(ad195.add (((rd l1 x28_2)).toNat * 7)).block, (ad195.add (((rd l1 x28_2)).toNat * 7)).off + 5, none⟩ = some (.bool ((rd_T140 l0 (rd l1 x28_2)).f5)) ∧ w'.cell? ⟨(ad195.add (((rd l1 x28_2)).toNat * 7)).block, (ad195.add (((rd l1 x28_2)).toNat * 7)).off + 6, none⟩ = some (.bool ((rd_T140 l0 (rd l1 x28_2)).f6))) (ds := []) #[false, false, false, false, false, false, false, false, false, false, false, false, false, false, false, false, false, false, false, false, false, false, false, false, false, false, false, false, false, false, false, false, false, false, false, false, false, false, false, false, false, false, false, false, false, false, false] (by kernel_rfl) rfl rfl ⟨((HB.out.cell (World.block_lt_of_cell? w _ hw185_0)).trans hw185_0), ((HB.out.cell (World.block_lt_of_cell? w _ hw194_0)).trans hw194_0), ((HB.out.cell (World.block_lt_of_cell? w _ hw195_0)).trans hw195_0), ((HB.out.cell (World.block_lt_of_cell? w _ hw195_1)).trans hw195_1), ((HB.out.cell (World.block_lt_of_cell? w _ hw195_2)).trans hw195_2), ((HB.out.cell (World.block_lt_of_cell? w _ hw195_3)).trans hw195_3), ((HB.out.cell (World.block_lt_of_cell? w _ hw195_4)).trans hw195_4), ((HB.out.cell (World.block_lt_of_cell? w _ hw195_5)).trans hw195_5), ((HB.out.cell (World.block_lt_of_cell? w _ hw195_6)).trans hw195_6)⟩ (fun hHeld => ?_); refine with_tabW tumbrelref09_Legal.tab6 tumbrelref09_Legal.bits6 (fun HT_ HW_ => ?_)
              generalize wr.drew = w34 at HB hx185_0 hx194_0 hx195_0 hx195_1 hx195_2 hx195_3 hx195_4 hx195_5 hx195_6 hHeld ⊢
              refine pz_ 0 (some 31) (dA_ 47 1) HT_ (h := ?_)
              refine pz_ 1 (some 32) (dA_ 47 3) HT_ (h := ?_)
              refine pz_ 2 (some 33) (dA_ 47 7) HT_ (h := ?_)
              refine pz_ 3 (some 34) (dA_ 47 15) HT_ (h := ?_)
              refine take_ (i := 4) (N := some 35) (v := ?_) (a' := ?_) (dA_ 47 31) rfl rfl (take_ofW HT_.out HW_.out (by kernel_rfl)) (fun _ _ _ h => h) (Or.inl ⟨by rfl, ?_⟩) hHeld ?_ ?_
              rotate_left
              ·rintro w' ⟨s0, s1, s2, s3, s4, s5, s6, s7, s8⟩
               go_simp
               with_reducible rfl
              rotate_left
              ·simp only [Act.put, List.setIfInBounds_toArray, List.set_cons_zero, List.set_cons_succ, i64_w, i32_w]
               rfl
              refine one_ (i := 5) (N := some 36) (dA_ 47 63) rfl rfl (one_of HT_.out (by kernel_rfl)) (by decide) (fun K hK => ?_)
              refine goes_ Try.func87 (by kernel_rfl) rfl #[.slice (some ad195) l0.length c0, .int .i64 (rd l1 x28_2)] (by rfl) rfl rfl kz8_2 ?_
              with_reducible refine (tumbrelref09_state.calls _ _ l0 (rd l1 x28_2) true _ ?side1 ?side2 A11.out).mono ?_
              (case side1 => repeat (first | exact (Kd.C_below HR0.out HB.out) | (with_reducible refine Kd.C_alloc ?_ _) | (with_reducible refine Kd.C_drewN ?_ _) | (with_reducible refine Kd.C_drew ?_)))
              (case side2 => exact HC0.out)
              rintro e w' ⟨rfl, ⟨nd, rfl⟩⟩
              refine ⟨_, rfl, ?_⟩
              refine hK.out _ _ ⟨((HB.out.cell (World.block_lt_of_cell? w _ hw185_0)).trans hw185_0), ((HB.out.cell (World.block_lt_of_cell? w _ hw194_0)).trans hw194_0), ((HB.out.cell (World.block_lt_of_cell? w _ hw195_0)).trans hw195_0), ((HB.out.cell (World.block_lt_of_cell? w _ hw195_1)).trans hw195_1), ((HB.out.cell (World.block_lt_of_cell? w _ hw195_2)).trans hw195_2), ((HB.out.cell (World.block_lt_of_cell? w _ hw195_3)).trans hw195_3), ((HB.out.cell (World.block_lt_of_cell? w _ hw195_4)).trans hw195_4), ((HB.out.cell (World.block_lt_of_cell? w _ hw195_5)).trans hw195_5), ((HB.out.cell (World.block_lt_of_cell? w _ hw195_6)).trans hw195_6)⟩ (fun hHeld => ?_)
              clear hK K
              refine norm_ (a' := ?_) ?_ ?_
              rotate_left
              ·show Act.put _ (some 36) _ = _
               simp only [Act.put, List.setIfInBounds_toArray, List.set_cons_zero, List.set_cons_succ, i64_w, i32_w]
               rfl
              refine pz_ 6 (some 37) (dA_ 47 127) HT_ (h := ?_)
              refine pz_ 7 (some 38) (dA_ 47 255) HT_ (h := ?_)
              refine pz_ 8 (some 39) (dA_ 47 511) HT_ (h := ?_)
              refine pz_ 9 (some 40) (dA_ 47 1023) HT_ (h := ?_)
              refine pz_ 10 (some 41) (dA_ 47 2047) HT_ (h := ?_)
              refine pu_ 11 (some 42) (dA_ 47 4095) HT_ (h := ?_)
              refine pu_ 12 (some 43) (dA_ 47 8191) HT_ (h := ?_)
              refine pu_ 13 (some 44) (dA_ 47 16383) HT_ (h := ?_)
              refine pu_ 14 (some 45) (dA_ 47 32767) HT_ (h := ?_)
              refine pu_ 15 (some 46) (dA_ 47 65535) HT_ (h := ?_)
              refine pu_ 16 (some 47) (dA_ 47 131071) HT_ (h := ?_)
              refine pu_ 17 (some 48) (dA_ 47 262143) HT_ (h := ?_)
              refine pu_ 18 (some 49) (dA_ 47 524287) HT_ (h := ?_)
              refine pu_ 19 (some 50) (dA_ 47 1048575) HT_ (h := ?_)
              refine pu_ 20 (some 51) (dA_ 47 2097151) HT_ (h := ?_)
              refine pz_ 21 (some 52) (dA_ 47 4194303) HT_ (h := ?_)
              refine pz_ 22 (some 53) (dA_ 47 8388607) HT_ (h := ?_)
              refine pz_ 23 (some 54) (dA_ 47 16777215) HT_ (h := ?_)
              refine pz_ 24 (some 55) (dA_ 47 33554431) HT_ (h := ?_)
              refine pz_ 25 (some 56) (dA_ 47 67108863) HT_ (h := ?_)
              refine pz_ 26 (some 57) (dA_ 47 134217727) HT_ (h := ?_)
              refine pz_ 27 (some 58) (dA_ 47 268435455) HT_ (h := ?_)
              refine take_ (i := 28) (N := some 59) (v := ?_) (a' := ?_) (dA_ 47 536870911) rfl rfl (take_ofW HT_.out HW_.out (by kernel_rfl)) (fun _ _ _ h => h) (Or.inl ⟨by rfl, ?_⟩) hHeld ?_ ?_
              rotate_left
              ·rintro w' ⟨s0, s1, s2, s3, s4, s5, s6, s7, s8⟩
               go_simp
               with_reducible rfl
              rotate_left
              ·simp only [Act.put, List.setIfInBounds_toArray, List.set_cons_zero, List.set_cons_succ, i64_w, i32_w]
               rfl
              refine pz_ 29 (some 60) (dA_ 47 1073741823) HT_ (h := ?_)
              refine pz_ 30 (some 61) (dA_ 47 2147483647) HT_ (h := ?_)
              refine take_ (i := 31) (N := some 62) (v := ?_) (a' := ?_) (dA_ 47 4294967295) rfl rfl (take_ofW HT_.out HW_.out (by kernel_rfl)) (fun _ _ _ h => h) (Or.inl ⟨by rfl, ?_⟩) hHeld ?_ ?_
              rotate_left
              ·rintro w' ⟨s0, s1, s2, s3, s4, s5, s6, s7, s8⟩
               go_simp
               with_reducible rfl
              rotate_left
              ·simp only [Act.put, List.setIfInBounds_toArray, List.set_cons_zero, List.set_cons_succ, i64_w, i32_w]
               rfl
              refine pz_ 32 (some 63) (dA_ 47 8589934591) HT_ (h := ?_)
              refine pz_ 33 (some 64) (dA_ 47 17179869183) HT_ (h := ?_)
              refine pu_ 34 (some 65) (dA_ 47 34359738367) HT_ (h := ?_)
              refine pu_ 35 (some 66) (dA_ 47 68719476735) HT_ (h := ?_)
              refine pu_ 36 (some 67) (dA_ 47 137438953471) HT_ (h := ?_)
              refine pu_ 37 (some 68) (dA_ 47 274877906943) HT_ (h := ?_)
              refine pu_ 38 (some 69) (dA_ 47 549755813887) HT_ (h := ?_)
              refine pu_ 39 (some 70) (dA_ 47 1099511627775) HT_ (h := ?_)
              refine pu_ 40 (some 71) (dA_ 47 2199023255551) HT_ (h := ?_)
              refine pu_ 41 (some 72) (dA_ 47 4398046511103) HT_ (h := ?_)
              refine pu_ 42 (some 73) (dA_ 47 8796093022207) HT_ (h := ?_)
              refine pu_ 43 (some 74) (dA_ 47 17592186044415) HT_ (h := ?_)
              refine pu_ 44 (some 75) (dA_ 47 35184372088831) HT_ (h := ?_)
              refine pz_ 45 (some 76) (dA_ 47 70368744177663) HT_ (h := ?_)
              refine pz_ 46 (some 77) (dA_ 47 140737488355327) HT_ (h := ?_)
              refine done_ (done_of HT_.out (by kernel_rfl)) ?_
              try go_wp2
              go_roundg k2
              case measure => have := HJ2.out; have := HK2.out; omega
              case rel => exact ⟨(wrap64 (x28_2 + 1)), kz8_3, H', ⟨by have := HJ2.out; have := HK2.out; omega⟩, ⟨by repeat (first | (with_reducible first | exact HB.out | apply below_alloc | apply pw_below_drewN | apply below_drew1) | exact HB.out)⟩⟩
            ·rw [if_neg c28] at H
             exact absurd H (by simp)
           ·rw [if_neg c27] at H
            exact absurd H (by simp)
         ·replace c12 := Bool.eq_false_iff.mpr c12
          subst c12
          have H1 : (some false) = some r := by rw [if_neg (show ¬ (false = true) by decide)] at H; exact H
          clear H
          have H := H1
          clear H1
          obtain rfl := Option.some.inj H
          try go_wp2
          have n0_ := Aside0.mk (below_drew1 HB.out)
          clear HB
          have HB := n0_
          clear n0_
          have p185 : 0 ≤ (x28_2 : Int) := of_decide_eq_true kz8_1
          have q185 : x28_2 < (l1.length : Int) := of_decide_eq_true kz8_1
          obtain ⟨ad185, e185, hx185_0⟩ := Kd.at_int HR1.out x28_2 p185 q185
          have hw185_0 := hx185_0
          cases e185
          replace hx185_0 := (HB.out.cell (World.block_lt_of_cell? w _ hx185_0)).trans hx185_0
          replace p185 := eq_true p185
          replace q185 := eq_true q185
          refine start_ (n := 47) (S := fun w' => w'.cell? (ad185.add (x28_2).toNat) = some (.int .i64 (rd l1 x28_2))) (ds := []) #[false, false, false, false, false, false, false, false, false, false, false, false, false, false, false, false, false, false, false, false, false, false, false, false, false, false, false, false, false, false, false, false, false, false, false, false, false, false, false, false, false, false, false, false, false, false, false] (by kernel_rfl) rfl rfl (((HB.out.cell (World.block_lt_of_cell? w _ hw185_0)).trans hw185_0)) (fun hHeld => ?_); refine with_tabW tumbrelref09_Legal.tab6 tumbrelref09_Legal.bits6 (fun HT_ HW_ => ?_)
          generalize wr.drew = w35 at HB hx185_0 hHeld ⊢
          refine pz_ 0 (some 31) (dA_ 47 1) HT_ (h := ?_)
          refine pz_ 1 (some 32) (dA_ 47 3) HT_ (h := ?_)
          refine pz_ 2 (some 33) (dA_ 47 7) HT_ (h := ?_)
          refine pz_ 3 (some 34) (dA_ 47 15) HT_ (h := ?_)
          refine take_ (i := 4) (N := some 35) (v := ?_) (a' := ?_) (dA_ 47 31) rfl rfl (take_ofW HT_.out HW_.out (by kernel_rfl)) (fun _ _ _ h => h) (Or.inl ⟨by rfl, ?_⟩) hHeld ?_ ?_
          rotate_left
          ·intro w' s0
           go_simp
           with_reducible rfl
          rotate_left
          ·simp only [Act.put, List.setIfInBounds_toArray, List.set_cons_zero, List.set_cons_succ, i64_w, i32_w]
           rfl
          refine one_ (i := 5) (N := some 36) (dA_ 47 63) rfl rfl (one_of HT_.out (by kernel_rfl)) (by decide) (fun K hK => ?_)
          refine goes_ Try.func87 (by kernel_rfl) rfl #[.slice A0 l0.length c0, .int .i64 (rd l1 x28_2)] (by rfl) rfl rfl kz8_2 ?_
          with_reducible refine (tumbrelref09_state.calls _ _ l0 (rd l1 x28_2) false _ ?side1 ?side2 A11.out).mono ?_
          (case side1 => repeat (first | exact (Kd.C_below HR0.out HB.out) | (with_reducible refine Kd.C_alloc ?_ _) | (with_reducible refine Kd.C_drewN ?_ _) | (with_reducible refine Kd.C_drew ?_)))
          (case side2 => exact HC0.out)
          rintro e w' ⟨rfl, ⟨nd, rfl⟩⟩
          refine ⟨_, rfl, ?_⟩
          refine hK.out _ _ (((HB.out.cell (World.block_lt_of_cell? w _ hw185_0)).trans hw185_0)) (fun hHeld => ?_)
          clear hK K
          refine norm_ (a' := ?_) ?_ ?_
          rotate_left
          ·show Act.put _ (some 36) _ = _
           simp only [Act.put, List.setIfInBounds_toArray, List.set_cons_zero, List.set_cons_succ, i64_w, i32_w]
           rfl
          refine pz_ 6 (some 37) (dA_ 47 127) HT_ (h := ?_)
          refine pz_ 7 (some 38) (dA_ 47 255) HT_ (h := ?_)
          refine pu_ 8 (some 39) (dA_ 47 511) HT_ (h := ?_)
          refine pu_ 9 (some 40) (dA_ 47 1023) HT_ (h := ?_)
          refine pu_ 10 (some 41) (dA_ 47 2047) HT_ (h := ?_)
          refine pu_ 11 (some 42) (dA_ 47 4095) HT_ (h := ?_)
          refine pu_ 12 (some 43) (dA_ 47 8191) HT_ (h := ?_)
          refine pu_ 13 (some 44) (dA_ 47 16383) HT_ (h := ?_)
          refine pu_ 14 (some 45) (dA_ 47 32767) HT_ (h := ?_)
          refine pu_ 15 (some 46) (dA_ 47 65535) HT_ (h := ?_)
          refine pu_ 16 (some 47) (dA_ 47 131071) HT_ (h := ?_)
          refine pu_ 17 (some 48) (dA_ 47 262143) HT_ (h := ?_)
          refine pu_ 18 (some 49) (dA_ 47 524287) HT_ (h := ?_)
          refine pu_ 19 (some 50) (dA_ 47 1048575) HT_ (h := ?_)
          refine pu_ 20 (some 51) (dA_ 47 2097151) HT_ (h := ?_)
          refine pu_ 21 (some 52) (dA_ 47 4194303) HT_ (h := ?_)
          refine pz_ 22 (some 53) (dA_ 47 8388607) HT_ (h := ?_)
          refine pz_ 23 (some 54) (dA_ 47 16777215) HT_ (h := ?_)
          refine pu_ 24 (some 55) (dA_ 47 33554431) HT_ (h := ?_)
          refine pu_ 25 (some 56) (dA_ 47 67108863) HT_ (h := ?_)
          refine pu_ 26 (some 57) (dA_ 47 134217727) HT_ (h := ?_)
          refine pu_ 27 (some 58) (dA_ 47 268435455) HT_ (h := ?_)
          refine pu_ 28 (some 59) (dA_ 47 536870911) HT_ (h := ?_)
          refine pu_ 29 (some 60) (dA_ 47 1073741823) HT_ (h := ?_)
          refine pu_ 30 (some 61) (dA_ 47 2147483647) HT_ (h := ?_)
          refine pu_ 31 (some 62) (dA_ 47 4294967295) HT_ (h := ?_)
          refine pu_ 32 (some 63) (dA_ 47 8589934591) HT_ (h := ?_)
          refine pu_ 33 (some 64) (dA_ 47 17179869183) HT_ (h := ?_)
          refine pu_ 34 (some 65) (dA_ 47 34359738367) HT_ (h := ?_)
          refine pu_ 35 (some 66) (dA_ 47 68719476735) HT_ (h := ?_)
          refine pu_ 36 (some 67) (dA_ 47 137438953471) HT_ (h := ?_)
          refine pu_ 37 (some 68) (dA_ 47 274877906943) HT_ (h := ?_)
          refine pu_ 38 (some 69) (dA_ 47 549755813887) HT_ (h := ?_)
          refine pu_ 39 (some 70) (dA_ 47 1099511627775) HT_ (h := ?_)
          refine pu_ 40 (some 71) (dA_ 47 2199023255551) HT_ (h := ?_)
          refine pu_ 41 (some 72) (dA_ 47 4398046511103) HT_ (h := ?_)
          refine pu_ 42 (some 73) (dA_ 47 8796093022207) HT_ (h := ?_)
          refine pu_ 43 (some 74) (dA_ 47 17592186044415) HT_ (h := ?_)
          refine pu_ 44 (some 75) (dA_ 47 35184372088831) HT_ (h := ?_)
          refine pu_ 45 (some 76) (dA_ 47 70368744177663) HT_ (h := ?_)
          refine pz_ 46 (some 77) (dA_ 47 140737488355327) HT_ (h := ?_)
          refine done_ (done_of HT_.out (by kernel_rfl)) ?_
          try go_wp2
          go_ret
          exact ⟨by first | rfl | (simp [errW_none, errW_some] <;> rfl) | (simp [*, errW_none, errW_some] <;> rfl), by repeat (first | (with_reducible first | exact HB.out | apply below_alloc | apply pw_below_drewN | apply below_drew1) | exact HB.out)⟩
        ·rw [if_neg c10] at H
         exact absurd H (by simp)
       ·rw [if_neg c9] at H
        exact absurd H (by simp)
      ·rw [if_neg c8] at H
       have c8b0 : decide (x28_2 < (l1.length : Int)) = false := decide_eq_false c8
       clear c8
       have H' := Aside0.mk H
       clear H
       go_wp2
       go_loopg [6] k2 (fun kq v6 w' => ∃ (x6_3 : Int), v6 = .int .i64 x6_3 ∧ Aside0 (tumbrelref09_Legal.l1 kq l0 l1 x6_3 = some r) ∧ Aside0 (kq ≤ k2) ∧ Aside0 (Below w.heap.size w w'))
       case atStart => exact ⟨((-1)), kz8_3, H', ⟨Nat.le_refl _⟩, ⟨by repeat (first | (with_reducible first | exact HB.out | apply below_alloc | apply pw_below_drewN | apply below_drew1) | exact HB.out)⟩⟩
       case round =>
        clear H'
        try clear c1
        try clear p1
        try clear q1
        try clear hx1
        try clear c2
        try clear p2
        try clear p6
        try clear c8
        try clear c8b0
        try clear c9
        try clear c10
        try clear c12
        try clear p18
        try clear q18
        try clear hx18
        try clear p19
        try clear q19
        try clear hx19
        try clear c27
        try clear c28
        try clear hx185_0
        try clear hx194_0
        try clear hx195_0
        try clear hx195_1
        try clear hx195_2
        try clear hx195_3
        try clear hx195_4
        try clear hx195_5
        try clear hx195_6
        try clear p185
        try clear p195
        try clear q185
        try clear q195
        obtain ⟨x6_3, rfl, HA, HK3, HB⟩ := hrel
        cases gk with
        | zero => exact absurd HA.out (by simp [tumbrelref09_Legal.l1])
        | succ k3 =>
         have H := HA.out
         clear HA
         simp only [tumbrelref09_Legal.l1] at H
         by_cases c36 : x6_3 < (l0.length : Int)
         ·rw [if_pos c36] at H
          have c36b0 : decide (x6_3 < (l0.length : Int)) = true := decide_eq_true c36
          clear c36
          have HC37 := Aside0.mk H
          clear H
          go_upto_region 12 with (fail)
          go_cut [99] (fun v99 wc => ∃ (kq : Nat) (x99_36 : Bool), v99 = .bool x99_36 ∧ Aside0 (tumbrelref09_Legal.j3 kq l0 l1 x6_3 x99_36 = some r) ∧ Aside0 (kq ≤ k3) ∧ Aside0 (Below w.heap.size w wc))
          case first =>
           have H := HC37.out
           clear HC37
           by_cases c38 : x6_3 ≥ 0
           ·rw [if_pos c38] at H
            have c38b0 : decide (0 ≤ x6_3) = true := decide_eq_true c38
            clear c38
            (first | rw [c38b0] | (simp only [i64_w, i32_w]; rw [c38b0]) | skip)
            by_cases c39 : 0 ≤ x6_3
            ·rw [if_pos c39] at H
             have c39b0 : decide (0 ≤ x6_3) = true := decide_eq_true c39
             clear c39
             obtain ⟨bq40, hbq40⟩ : ∃ b_ : Bool, b_ = ((rd_T140 l0 x6_3).f6) := ⟨_, rfl⟩
             replace H : (if bq40 = true then (tumbrelref09_Legal.j3 k3 l0 l1 x6_3 true) else ((tumbrelref09_has.f k3 l1 x6_3).bind fun t200 => (tumbrelref09_Legal.j3 k3 l0 l1 x6_3 (!t200)))) = some r := by rw [← hbq40] at H; exact H
             have Nbq40 := Aside0.mk hbq40
             clear hbq40
             by_cases c41 : bq40 = true
             ·subst c41
              have H1 : (tumbrelref09_Legal.j3 k3 l0 l1 x6_3 true) = some r := by rw [if_pos rfl] at H; exact H
              clear H
              have H := H1
              clear H1
              have H' := Aside0.mk H
              clear H
              have p199 : 0 ≤ (x6_3 : Int) := of_decide_eq_true kz8_1
              have q199 : x6_3 < (l0.length : Int) := of_decide_eq_true kz8_1
              obtain ⟨ad199, e199, hx199_0, hx199_1, hx199_2, hx199_3, hx199_4, hx199_5, hx199_6⟩ := at_T140 HR0.out x6_3 p199 q199
              (try rw [← Nbq40.out] at hx199_4)
              (try rw [← Nbq40.out] at hx199_5)
              (try rw [← Nbq40.out] at hx199_6)
              cases e199
              replace hx199_0 := (HB.out.cell (World.block_lt_of_cell? w _ hx199_0)).trans hx199_0
              replace hx199_1 := (HB.out.cell (World.block_lt_of_cell? w _ hx199_1)).trans hx199_1
              replace hx199_2 := (HB.out.cell (World.block_lt_of_cell? w _ hx199_2)).trans hx199_2
              replace hx199_3 := (HB.out.cell (World.block_lt_of_cell? w _ hx199_3)).trans hx199_3
              replace hx199_4 := (HB.out.cell (World.block_lt_of_cell? w _ hx199_4)).trans hx199_4
              replace hx199_5 := (HB.out.cell (World.block_lt_of_cell? w _ hx199_5)).trans hx199_5
              replace hx199_6 := (HB.out.cell (World.block_lt_of_cell? w _ hx199_6)).trans hx199_6
              replace p199 := eq_true p199
              replace q199 := eq_true q199
              go_wp2
              go_meet
              case rel => exact ⟨_, (true), kz8_3, H', ⟨by have := HJ2.out; have := HK2.out; have := HK3.out; first | omega | exact Nat.le_refl _⟩, ⟨by repeat (first | (with_reducible first | exact HB.out | apply below_alloc | apply pw_below_drewN | apply below_drew1) | exact HB.out)⟩⟩
             ·replace c41 := Bool.eq_false_iff.mpr c41
              subst c41
              have H1 : ((tumbrelref09_has.f k3 l1 x6_3).bind fun t200 => (tumbrelref09_Legal.j3 k3 l0 l1 x6_3 (!t200))) = some r := by rw [if_neg (show ¬ (false = true) by decide)] at H; exact H
              clear H
              have H := H1
              clear H1
              replace H := Option.bind_eq_some_iff.mp H
              obtain ⟨t200, A420, H⟩ := H
              replace H : (tumbrelref09_Legal.j3 k3 l0 l1 x6_3 (!t200)) = some r := H
              have A42 := Aside0.mk A420
              clear A420
              have H' := Aside0.mk H
              clear H
              have p199 : 0 ≤ (x6_3 : Int) := of_decide_eq_true kz8_1
              have q199 : x6_3 < (l0.length : Int) := of_decide_eq_true kz8_1
              obtain ⟨ad199, e199, hx199_0, hx199_1, hx199_2, hx199_3, hx199_4, hx199_5, hx199_6⟩ := at_T140 HR0.out x6_3 p199 q199
              (try rw [← Nbq40.out] at hx199_4)
              (try rw [← Nbq40.out] at hx199_5)
              (try rw [← Nbq40.out] at hx199_6)
              cases e199
              replace hx199_0 := (HB.out.cell (World.block_lt_of_cell? w _ hx199_0)).trans hx199_0
              replace hx199_1 := (HB.out.cell (World.block_lt_of_cell? w _ hx199_1)).trans hx199_1
              replace hx199_2 := (HB.out.cell (World.block_lt_of_cell? w _ hx199_2)).trans hx199_2
              replace hx199_3 := (HB.out.cell (World.block_lt_of_cell? w _ hx199_3)).trans hx199_3
              replace hx199_4 := (HB.out.cell (World.block_lt_of_cell? w _ hx199_4)).trans hx199_4
              replace hx199_5 := (HB.out.cell (World.block_lt_of_cell? w _ hx199_5)).trans hx199_5
              replace hx199_6 := (HB.out.cell (World.block_lt_of_cell? w _ hx199_6)).trans hx199_6
              replace p199 := eq_true p199
              replace q199 := eq_true q199
              go_wp2_with (first | (go_at_call 88; (with_reducible refine (tumbrelref09_has.calls k3 _ _ l1 x6_3 t200 _ ?side1 ?side2 A42.out).mono ?_); (case side1 => repeat (first | exact (Kd.C_below HR1.out HB.out) | (with_reducible refine Kd.C_alloc ?_ _) | (with_reducible refine Kd.C_drewN ?_ _) | (with_reducible refine Kd.C_drew ?_))); (case side2 => exact HC1.out); rintro e w' ⟨rfl, ⟨nd, rfl⟩⟩))
              go_meet
              case rel => exact ⟨_, (!t200), kz8_3, H', ⟨by have := HJ2.out; have := HK2.out; have := HK3.out; first | omega | exact Nat.le_refl _⟩, ⟨by repeat (first | (with_reducible first | exact HB.out | apply below_alloc | apply pw_below_drewN | apply below_drew1) | exact HB.out)⟩⟩
            ·rw [if_neg c39] at H
             exact absurd H (by simp)
           ·rw [if_neg c38] at H
            have c38b0 : decide (0 ≤ x6_3) = false := decide_eq_false c38
            clear c38
            (first | rw [c38b0] | (simp only [i64_w, i32_w]; rw [c38b0]) | skip)
            have H' := Aside0.mk H
            clear H
            go_wp2
            go_meet
            case rel => exact ⟨_, (false), kz8_3, H', ⟨by have := HJ2.out; have := HK2.out; have := HK3.out; first | omega | exact Nat.le_refl _⟩, ⟨by repeat (first | (with_reducible first | exact HB.out | apply below_alloc | apply pw_below_drewN | apply below_drew1) | exact HB.out)⟩⟩
          case rest =>
           clear HC37
           try clear c1
           try clear p1
           try clear q1
           try clear hx1
           try clear c2
           try clear p2
           try clear c3
           try clear c4
           try clear q4
           try clear p6
           try clear c8
           try clear c8b0
           try clear c9
           try clear c10
           try clear c12
           try clear p18
           try clear q18
           try clear hx18
           try clear p19
           try clear q19
           try clear hx19
           try clear c27
           try clear c28
           try clear c36
           try clear c36b0
           try clear c38
           try clear c38b0
           try clear c39
           try clear c39b0
           try clear q40
           try clear c41
           try clear hx185_0
           try clear hx194_0
           try clear hx195_0
           try clear hx195_1
           try clear hx195_2
           try clear hx195_3
           try clear hx195_4
           try clear hx195_5
           try clear hx195_6
           try clear hx199_0
           try clear hx199_1
           try clear hx199_2
           try clear hx199_3
           try clear hx199_4
           try clear hx199_5
           try clear hx199_6
           try clear p1
           try clear p18
           try clear p185
           try clear p19
           try clear p195
           try clear p199
           try clear p2
           try clear p6
           try clear q1
           try clear q18
           try clear q185
           try clear q19
           try clear q195
           try clear q199
           obtain ⟨kq, x99_36, rfl, HA, HJ36, HB⟩ := hcut
           cases kq with
           | zero => exact absurd HA.out (by simp [tumbrelref09_Legal.j3])
           | succ kj36 =>
            have H := HA.out
            clear HA
            simp only [tumbrelref09_Legal.j3] at H
            by_cases c43 : x99_36 = true
            ·subst c43
             have H1 : (tumbrelref09_Legal.l1 kj36 l0 l1 (wrap64 (x6_3 + 1))) = some r := by rw [if_pos rfl] at H; exact H
             clear H
             have H := H1
             clear H1
             have H' := Aside0.mk H
             clear H
             go_wp2
             go_roundg kj36
             case measure => have := HJ2.out; have := HK2.out; have := HK3.out; have := HJ36.out; omega
             case rel => exact ⟨(wrap64 (x6_3 + 1)), kz8_3, H', ⟨by have := HJ2.out; have := HK2.out; have := HK3.out; have := HJ36.out; omega⟩, ⟨by repeat (first | (with_reducible first | exact HB.out | apply below_alloc | apply pw_below_drewN | apply below_drew1) | exact HB.out)⟩⟩
            ·replace c43 := Bool.eq_false_iff.mpr c43
             subst c43
             have H1 : ((tumbrelref09_Inner.f kj36 l0 x6_3).bind fun t201 => (tumbrelref09_Legal.l2 kj36 l0 l1 x6_3 t201 0 (t201.length : Int) 0)) = some r := by rw [if_neg (show ¬ (false = true) by decide)] at H; exact H
             clear H
             have H := H1
             clear H1
             replace H := Option.bind_eq_some_iff.mp H
             obtain ⟨t201, A440, H⟩ := H
             replace H : (tumbrelref09_Legal.l2 kj36 l0 l1 x6_3 t201 0 (t201.length : Int) 0) = some r := H
             have A44 := Aside0.mk A440
             clear A440
             have H' := Aside0.mk H
             clear H
             go_wp2_with (first | ((with_reducible refine gate_callee (f := 89) rfl ?_); refine goesL_ (some 102) rfl rfl Try.func89 (by kernel_rfl) rfl #[.slice A0 l0.length c0, .int .i64 x6_3] rfl kz8_2 ?_; (with_reducible refine (tumbrelref09_Inner.calls kj36 _ _ l0 x6_3 t201 _ ?side1 ?side2 A44.out).mono ?_); (case side1 => repeat (first | exact (Kd.C_below HR0.out HB.out) | (with_reducible refine Kd.C_alloc ?_ _) | (with_reducible refine Kd.C_drewN ?_ _) | (with_reducible refine Kd.C_drew ?_))); (case side2 => exact HC0.out); rintro e w45 ⟨v202, rfl, ho0, hb⟩; refine ⟨_, rfl, ?_⟩; have n0_ := Aside0.mk (Kd.R_lower ho0 (below_size kz8_4)); have n1_ := Aside0.mk (below_step kz8_4 hb); clear HB; have HO203 := n0_; have HB := n1_; clear n0_ n1_; (try clear hb); (try clear hb2); (try clear hk); (try clear hi); (try clear ho0); obtain ⟨Ao46, co46, eo46⟩ := Kd.R_slice HO203.out; subst eo46))
             go_loopg [8, 105] kj36 (fun kq v8 v105 w' => ∃ (x8_5 : Int) (x105_5 : Int), v8 = .int .i64 x8_5 ∧ v105 = .int .i64 x105_5 ∧ Aside0 (tumbrelref09_Legal.l2 kq l0 l1 x6_3 t201 x8_5 (t201.length : Int) x105_5 = some r) ∧ Aside0 (kq ≤ kj36) ∧ Aside0 (Kd.R (Kd.int .i64) 3 w' w.heap.size (fun _ => True) (.slice Ao46 t201.length co46) t201) ∧ Aside0 (Below w.heap.size w w'))
             case atStart => exact ⟨(0), (0), kz8_3, kz8_3, H', ⟨Nat.le_refl _⟩, ⟨by (with_reducible repeat (first | apply Kd.R_alloc | apply Kd.R_drewN | apply Kd.R_drew)); exact HO203.out⟩, ⟨by repeat (first | (with_reducible first | exact HB.out | apply below_alloc | apply pw_below_drewN | apply below_drew1) | exact HB.out)⟩⟩
             case round =>
              clear H'
              try clear c1
              try clear p1
              try clear q1
              try clear hx1
              try clear c2
              try clear p2
              try clear c3
              try clear c4
              try clear q4
              try clear p6
              try clear c8
              try clear c8b0
              try clear c9
              try clear c10
              try clear c12
              try clear p18
              try clear q18
              try clear hx18
              try clear p19
              try clear q19
              try clear hx19
              try clear c27
              try clear c28
              try clear c36
              try clear c36b0
              try clear c38
              try clear c38b0
              try clear c39
              try clear c39b0
              try clear q40
              try clear c41
              try clear c43
              try clear hx185_0
              try clear hx194_0
              try clear hx195_0
              try clear hx195_1
              try clear hx195_2
              try clear hx195_3
              try clear hx195_4
              try clear hx195_5
              try clear hx195_6
              try clear hx199_0
              try clear hx199_1
              try clear hx199_2
              try clear hx199_3
              try clear hx199_4
              try clear hx199_5
              try clear hx199_6
              try clear p1
              try clear p18
              try clear p185
              try clear p19
              try clear p195
              try clear p199
              try clear p2
              try clear p6
              try clear q1
              try clear q18
              try clear q185
              try clear q19
              try clear q195
              try clear q199
              try clear q4
              try clear q40
              obtain ⟨x8_5, x105_5, rfl, rfl, HA, HK5, HO_7, HB⟩ := hrel
              cases gk with
              | zero => exact absurd HA.out (by simp [tumbrelref09_Legal.l2])
              | succ k5 =>
               have H := HA.out
               clear HA
               simp only [tumbrelref09_Legal.l2] at H
               by_cases c47 : x105_5 < (t201.length : Int)
               ·rw [if_pos c47] at H
                have c47b0 : decide (x105_5 < (t201.length : Int)) = true := decide_eq_true c47
                clear c47
                by_cases c48 : 0 ≤ x105_5
                ·rw [if_pos c48] at H
                 have c48b0 : decide (0 ≤ x105_5) = true := decide_eq_true c48
                 clear c48
                 by_cases c49 : x105_5 < (t201.length : Int)
                 ·rw [if_pos c49] at H
                  have c49b0 : decide (x105_5 < (t201.length : Int)) = true := decide_eq_true c49
                  clear c49
                  replace H := Option.bind_eq_some_iff.mp H
                  obtain ⟨t205, A500, H⟩ := H
                  replace H : (if t205 = true then (tumbrelref09_Legal.l2 k5 l0 l1 x6_3 t201 (wrap64 (x8_5 + 1)) (t201.length : Int) (wrap64 (x105_5 + 1))) else (tumbrelref09_Legal.l2 k5 l0 l1 x6_3 t201 x8_5 (t201.length : Int) (wrap64 (x105_5 + 1)))) = some r := H
                  have A50 := Aside0.mk A500
                  clear A500
                  by_cases c51 : t205 = true
                  ·subst c51
                   have H1 : (tumbrelref09_Legal.l2 k5 l0 l1 x6_3 t201 (wrap64 (x8_5 + 1)) (t201.length : Int) (wrap64 (x105_5 + 1))) = some r := by rw [if_pos rfl] at H; exact H
                   clear H
                   have H := H1
                   clear H1
                   have H' := Aside0.mk H
                   clear H
                   have p204 : 0 ≤ (x105_5 : Int) := of_decide_eq_true kz8_1
                   have q204 : x105_5 < (t201.length : Int) := of_decide_eq_true kz8_1
                   obtain ⟨ad204, e204, hx204_0⟩ := Kd.at_int (Kd.R_reads' HO_7.out).2.2 x105_5 p204 q204
                   cases e204
                   replace p204 := eq_true p204
                   replace q204 := eq_true q204
                   go_wp2_with (first | ((with_reducible refine gate_callee (f := 88) rfl ?_); refine goesL_ (some 113) rfl rfl Try.func88 (by kernel_rfl) rfl #[.slice A1 l1.length c1, .int .i64 (rd t201 x105_5)] rfl kz8_2 ?_; (with_reducible refine (tumbrelref09_has.calls k5 _ _ l1 (rd t201 x105_5) true _ ?side1 ?side2 A50.out).mono ?_); (case side1 => repeat (first | exact (Kd.C_below HR1.out HB.out) | (with_reducible refine Kd.C_alloc ?_ _) | (with_reducible refine Kd.C_drewN ?_ _) | (with_reducible refine Kd.C_drew ?_))); (case side2 => exact HC1.out); rintro e w' ⟨rfl, ⟨nd, rfl⟩⟩; refine ⟨_, rfl, ?_⟩))
                   go_roundg k5
                   case measure => have := HJ2.out; have := HK2.out; have := HK3.out; have := HJ36.out; have := HK5.out; omega
                   case rel => exact ⟨(wrap64 (x8_5 + 1)), (wrap64 (x105_5 + 1)), kz8_3, kz8_3, H', ⟨by have := HJ2.out; have := HK2.out; have := HK3.out; have := HJ36.out; have := HK5.out; omega⟩, ⟨by (with_reducible repeat (first | apply Kd.R_alloc | apply Kd.R_drewN | apply Kd.R_drew)); exact HO_7.out⟩, ⟨by repeat (first | (with_reducible first | exact HB.out | apply below_alloc | apply pw_below_drewN | apply below_drew1) | exact HB.out)⟩⟩
                  ·replace c51 := Bool.eq_false_iff.mpr c51
                   subst c51
                   have H1 : (tumbrelref09_Legal.l2 k5 l0 l1 x6_3 t201 x8_5 (t201.length : Int) (wrap64 (x105_5 + 1))) = some r := by rw [if_neg (show ¬ (false = true) by decide)] at H; exact H
                   clear H
                   have H := H1
                   clear H1
                   have H' := Aside0.mk H
                   clear H
                   have p204 : 0 ≤ (x105_5 : Int) := of_decide_eq_true kz8_1
                   have q204 : x105_5 < (t201.length : Int) := of_decide_eq_true kz8_1
                   obtain ⟨ad204, e204, hx204_0⟩ := Kd.at_int (Kd.R_reads' HO_7.out).2.2 x105_5 p204 q204
                   cases e204
                   replace p204 := eq_true p204
                   replace q204 := eq_true q204
                   go_wp2_with (first | ((with_reducible refine gate_callee (f := 88) rfl ?_); refine goesL_ (some 113) rfl rfl Try.func88 (by kernel_rfl) rfl #[.slice A1 l1.length c1, .int .i64 (rd t201 x105_5)] rfl kz8_2 ?_; (with_reducible refine (tumbrelref09_has.calls k5 _ _ l1 (rd t201 x105_5) false _ ?side1 ?side2 A50.out).mono ?_); (case side1 => repeat (first | exact (Kd.C_below HR1.out HB.out) | (with_reducible refine Kd.C_alloc ?_ _) | (with_reducible refine Kd.C_drewN ?_ _) | (with_reducible refine Kd.C_drew ?_))); (case side2 => exact HC1.out); rintro e w' ⟨rfl, ⟨nd, rfl⟩⟩; refine ⟨_, rfl, ?_⟩))
                   go_roundg k5
                   case measure => have := HJ2.out; have := HK2.out; have := HK3.out; have := HJ36.out; have := HK5.out; omega
                   case rel => exact ⟨(x8_5), (wrap64 (x105_5 + 1)), kz8_3, kz8_3, H', ⟨by have := HJ2.out; have := HK2.out; have := HK3.out; have := HJ36.out; have := HK5.out; omega⟩, ⟨by (with_reducible repeat (first | apply Kd.R_alloc | apply Kd.R_drewN | apply Kd.R_drew)); exact HO_7.out⟩, ⟨by repeat (first | (with_reducible first | exact HB.out | apply below_alloc | apply pw_below_drewN | apply below_drew1) | exact HB.out)⟩⟩
                 ·rw [if_neg c49] at H
                  exact absurd H (by simp)
                ·rw [if_neg c48] at H
                 exact absurd H (by simp)
               ·rw [if_neg c47] at H
                have c47b0 : decide (x105_5 < (t201.length : Int)) = false := decide_eq_false c47
                clear c47
                have HC52 := Aside0.mk H
                clear H
                go_upto_region 22 with (fail)
                go_cut [125] (fun v125 wc => ∃ (kq : Nat) (x125_51 : Bool), v125 = .bool x125_51 ∧ Aside0 (tumbrelref09_Legal.j5 kq l0 l1 x6_3 t201 x8_5 1 x125_51 = some r) ∧ Aside0 (kq ≤ k5) ∧ Aside0 (Kd.R (Kd.int .i64) 3 wc w.heap.size (fun _ => True) (.slice Ao46 t201.length co46) t201) ∧ Aside0 (Below w.heap.size w wc))
                case first =>
                 have H := HC52.out
                 clear HC52
                 by_cases c53 : x6_3 ≥ 0
                 ·rw [if_pos c53] at H
                  have c53b0 : decide (0 ≤ x6_3) = true := decide_eq_true c53
                  clear c53
                  (first | rw [c53b0] | (simp only [i64_w, i32_w]; rw [c53b0]) | skip)
                  by_cases c54 : 0 ≤ x6_3
                  ·rw [if_pos c54] at H
                   have c54b0 : decide (0 ≤ x6_3) = true := decide_eq_true c54
                   clear c54
                   by_cases c55 : x6_3 < (l0.length : Int)
                   ·rw [if_pos c55] at H
                    have c55b0 : decide (x6_3 < (l0.length : Int)) = true := decide_eq_true c55
                    clear c55
                    have H' := Aside0.mk H
                    clear H
                    have p206 : 0 ≤ (x6_3 : Int) := of_decide_eq_true kz8_1
                    have q206 : x6_3 < (l0.length : Int) := of_decide_eq_true kz8_1
                    obtain ⟨ad206, e206, hx206_0, hx206_1, hx206_2, hx206_3, hx206_4, hx206_5, hx206_6⟩ := at_T140 HR0.out x6_3 p206 q206
                    cases e206
                    replace hx206_0 := (HB.out.cell (World.block_lt_of_cell? w _ hx206_0)).trans hx206_0
                    replace hx206_1 := (HB.out.cell (World.block_lt_of_cell? w _ hx206_1)).trans hx206_1
                    replace hx206_2 := (HB.out.cell (World.block_lt_of_cell? w _ hx206_2)).trans hx206_2
                    replace hx206_3 := (HB.out.cell (World.block_lt_of_cell? w _ hx206_3)).trans hx206_3
                    replace hx206_4 := (HB.out.cell (World.block_lt_of_cell? w _ hx206_4)).trans hx206_4
                    replace hx206_5 := (HB.out.cell (World.block_lt_of_cell? w _ hx206_5)).trans hx206_5
                    replace hx206_6 := (HB.out.cell (World.block_lt_of_cell? w _ hx206_6)).trans hx206_6
                    replace p206 := eq_true p206
                    replace q206 := eq_true q206
                    go_wp2
                    go_meet
                    case rel => exact ⟨_, ((rd_T140 l0 x6_3).f4), kz8_3, H', ⟨by have := HJ2.out; have := HK2.out; have := HK3.out; have := HJ36.out; have := HK5.out; first | omega | exact Nat.le_refl _⟩, ⟨by (with_reducible repeat (first | apply Kd.R_alloc | apply Kd.R_drewN | apply Kd.R_drew)); exact HO_7.out⟩, ⟨by repeat (first | (with_reducible first | exact HB.out | apply below_alloc | apply pw_below_drewN | apply below_drew1) | exact HB.out)⟩⟩
                   ·rw [if_neg c55] at H
                    exact absurd H (by simp)
                  ·rw [if_neg c54] at H
                   exact absurd H (by simp)
                 ·rw [if_neg c53] at H
                  have c53b0 : decide (0 ≤ x6_3) = false := decide_eq_false c53
                  clear c53
                  (first | rw [c53b0] | (simp only [i64_w, i32_w]; rw [c53b0]) | skip)
                  have H' := Aside0.mk H
                  clear H
                  go_wp2
                  go_meet
                  case rel => exact ⟨_, (false), kz8_3, H', ⟨by have := HJ2.out; have := HK2.out; have := HK3.out; have := HJ36.out; have := HK5.out; first | omega | exact Nat.le_refl _⟩, ⟨by (with_reducible repeat (first | apply Kd.R_alloc | apply Kd.R_drewN | apply Kd.R_drew)); exact HO_7.out⟩, ⟨by repeat (first | (with_reducible first | exact HB.out | apply below_alloc | apply pw_below_drewN | apply below_drew1) | exact HB.out)⟩⟩
                case rest =>
                 clear HC52
                 try clear c1
                 try clear p1
                 try clear q1
                 try clear hx1
                 try clear c2
                 try clear p2
                 try clear q2
                 try clear hx2
                 try clear c3
                 try clear c4
                 try clear q4
                 try clear c5
                 try clear p6
                 try clear c8
                 try clear c8b0
                 try clear c9
                 try clear c10
                 try clear c12
                 try clear p18
                 try clear q18
                 try clear hx18
                 try clear p19
                 try clear q19
                 try clear hx19
                 try clear p20
                 try clear q20
                 try clear hx20
                 try clear c27
                 try clear c28
                 try clear c36
                 try clear c36b0
                 try clear c38
                 try clear c38b0
                 try clear c39
                 try clear c39b0
                 try clear q40
                 try clear c41
                 try clear c43
                 try clear c47
                 try clear c47b0
                 try clear c48
                 try clear c48b0
                 try clear c49
                 try clear c49b0
                 try clear c51
                 try clear c53
                 try clear c53b0
                 try clear c54
                 try clear c54b0
                 try clear c55
                 try clear c55b0
                 try clear hx185_0
                 try clear hx194_0
                 try clear hx195_0
                 try clear hx195_1
                 try clear hx195_2
                 try clear hx195_3
                 try clear hx195_4
                 try clear hx195_5
                 try clear hx195_6
                 try clear hx199_0
                 try clear hx199_1
                 try clear hx199_2
                 try clear hx199_3
                 try clear hx199_4
                 try clear hx199_5
                 try clear hx199_6
                 try clear hx204_0
                 try clear hx206_0
                 try clear hx206_1
                 try clear hx206_2
                 try clear hx206_3
                 try clear hx206_4
                 try clear hx206_5
                 try clear hx206_6
                 try clear p1
                 try clear p18
                 try clear p185
                 try clear p19
                 try clear p195
                 try clear p199
                 try clear p2
                 try clear p204
                 try clear p206
                 try clear p6
                 try clear q1
                 try clear q18
                 try clear q185
                 try clear q19
                 try clear q195
                 try clear q199
                 try clear q204
                 try clear q206
                 try clear q4
                 try clear q40
                 obtain ⟨kq, x125_51, rfl, HA, HJ51, HO_7, HB⟩ := hcut
                 cases kq with
                 | zero => exact absurd HA.out (by simp [tumbrelref09_Legal.j5])
                 | succ kj51 =>
                  have H := HA.out
                  clear HA
                  simp only [tumbrelref09_Legal.j5] at H
                  by_cases c56 : x125_51 = true
                  ·subst c56
                   have H1 : (if x8_5 = (t201.length : Int) then (tumbrelref09_Legal.l1 kj51 l0 l1 (wrap64 (x6_3 + 1))) else (some false)) = some r := by rw [if_pos rfl] at H; exact H
                   clear H
                   have H := H1
                   clear H1
                   by_cases c57 : x8_5 = (t201.length : Int)
                   ·rw [if_pos c57] at H
                    have c57b0 : (x8_5 == (t201.length : Int)) = true := beq_iff_eq.mpr c57
                    have c57b1 : (x8_5 != (t201.length : Int)) = false := bne_eq_false_iff_eq.mpr c57
                    clear c57
                    have H' := Aside0.mk H
                    clear H
                    go_wp2
                    go_roundg kj51
                    case measure => have := HJ2.out; have := HK2.out; have := HK3.out; have := HJ36.out; have := HK5.out; have := HJ51.out; omega
                    case rel => exact ⟨(wrap64 (x6_3 + 1)), kz8_3, H', ⟨by have := HJ2.out; have := HK2.out; have := HK3.out; have := HJ36.out; have := HK5.out; have := HJ51.out; omega⟩, ⟨by repeat (first | (with_reducible first | exact HB.out | apply below_alloc | apply pw_below_drewN | apply below_drew1) | exact HB.out)⟩⟩
                   ·rw [if_neg c57] at H
                    have c57b0 : (x8_5 == (t201.length : Int)) = false := beq_eq_false_iff_ne.mpr c57
                    have c57b1 : (x8_5 != (t201.length : Int)) = true := bne_iff_ne.mpr c57
                    obtain rfl := Option.some.inj H
                    go_wp2
                    go_ret
                    exact ⟨by first | rfl | (simp [errW_none, errW_some] <;> rfl) | (simp [*, errW_none, errW_some] <;> rfl), by repeat (first | (with_reducible first | exact HB.out | apply below_alloc | apply pw_below_drewN | apply below_drew1) | exact HB.out)⟩
                  ·replace c56 := Bool.eq_false_iff.mpr c56
                   subst c56
                   have H1 : (if x8_5 = 1 then (tumbrelref09_Legal.l1 kj51 l0 l1 (wrap64 (x6_3 + 1))) else (some false)) = some r := by rw [if_neg (show ¬ (false = true) by decide)] at H; exact H
                   clear H
                   have H := H1
                   clear H1
                   by_cases c58 : x8_5 = 1
                   ·rw [if_pos c58] at H
                    have c58b0 : (x8_5 == 1) = true := beq_iff_eq.mpr c58
                    have c58b1 : (x8_5 != 1) = false := bne_eq_false_iff_eq.mpr c58
                    clear c58
                    have H' := Aside0.mk H
                    clear H
                    go_wp2
                    go_roundg kj51
                    case measure => have := HJ2.out; have := HK2.out; have := HK3.out; have := HJ36.out; have := HK5.out; have := HJ51.out; omega
                    case rel => exact ⟨(wrap64 (x6_3 + 1)), kz8_3, H', ⟨by have := HJ2.out; have := HK2.out; have := HK3.out; have := HJ36.out; have := HK5.out; have := HJ51.out; omega⟩, ⟨by repeat (first | (with_reducible first | exact HB.out | apply below_alloc | apply pw_below_drewN | apply below_drew1) | exact HB.out)⟩⟩
                   ·rw [if_neg c58] at H
                    have c58b0 : (x8_5 == 1) = false := beq_eq_false_iff_ne.mpr c58
                    have c58b1 : (x8_5 != 1) = true := bne_iff_ne.mpr c58
                    obtain rfl := Option.some.inj H
                    go_wp2
                    go_ret
                    exact ⟨by first | rfl | (simp [errW_none, errW_some] <;> rfl) | (simp [*, errW_none, errW_some] <;> rfl), by repeat (first | (with_reducible first | exact HB.out | apply below_alloc | apply pw_below_drewN | apply below_drew1) | exact HB.out)⟩
         ·rw [if_neg c36] at H
          have c36b0 : decide (x6_3 < (l0.length : Int)) = false := decide_eq_false c36
          clear c36
          obtain rfl := Option.some.inj H
          go_wp2
          go_ret
          exact ⟨by first | rfl | (simp [errW_none, errW_some] <;> rfl) | (simp [*, errW_none, errW_some] <;> rfl), by repeat (first | (with_reducible first | exact HB.out | apply below_alloc | apply pw_below_drewN | apply below_drew1) | exact HB.out)⟩

end Go.Proofs.Ytjghlomkimoeoaa.PConfigAsks
