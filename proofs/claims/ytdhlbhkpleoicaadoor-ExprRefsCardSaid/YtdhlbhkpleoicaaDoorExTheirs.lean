/- A document's expression as the package has it. -/
import Derived.Test.YtdhlbhkpleoicaaDoorExVal2
namespace Go.Proofs.YtdhlbhkpleoicaaDoor.Exp
open Go.RowKit Go.Proofs.YtdhlbhkpleoicaaDoorW.PrintWords Go.Proofs.YtdhlbhkpleoicaaDoorW.PrintLast Go.Proofs.YtdhlbhkpleoicaaDoorW.PrintMore Go.Proofs.YtdhlbhkpleoicaaDoor.PExprEvals
open Frm
set_option linter.unusedVariables false
set_option linter.unusedSimpArgs false
theorem mem_size {x y : S24} (h : y ∈ x.f3) : SizeOf.sizeOf y < SizeOf.sizeOf x := by
  cases x with
  | mk a b c l =>
    have := List.sizeOf_lt_of_mem h
    simp at this ⊢
    omega
def theirs (x : S24) : Ex :=
  if x.f0 = 1 then .lit x.f1 else if x.f0 = 2 then .ref x.f2 else
  if x.f0 = 3 then .not (if h : 0 < x.f3.length then theirs x.f3[0] else .none) else
  if x.f0 = 4 then .neg (if h : 0 < x.f3.length then theirs x.f3[0] else .none) else
  if x.f0 = 5 then .bin x.f2 (if h : 0 < x.f3.length then theirs x.f3[0] else .none) (if h : 1 < x.f3.length then theirs x.f3[1] else .none) else .none
termination_by SizeOf.sizeOf x
decreasing_by all_goals exact mem_size (List.getElem_mem _)
/-- Its i-th part. -/
def part (x : S24) (i : Nat) : Ex := if h : i < x.f3.length then theirs x.f3[i] else .none
theorem theirs_eq (x : S24) : theirs x = if x.f0 = 1 then .lit x.f1 else if x.f0 = 2 then .ref x.f2 else if x.f0 = 3 then .not (part x 0) else if x.f0 = 4 then .neg (part x 0) else if x.f0 = 5 then .bin x.f2 (part x 0) (part x 1) else .none := by
  rw [theirs]
  rfl
/-- A node's block. -/
def NodeAt (w : World) (b : Nat) (x : S24) : Prop := ∃ A c, w.heap[b]? = some (.cells #[.int .i64 x.f0, .int .i64 x.f1, .string x.f2, .slice A x.f3.length c] 24 (0, 0)) ∧ Kd.C k24 w A x.f3.length x.f3 ∧ x.f3.length ≤ c
theorem NodeAt.below {w w1 : World} {b : Nat} {x : S24} (h : NodeAt w b x) (hb : Below w.heap.size w w1) : NodeAt w1 b x := by
  obtain ⟨A, c, h1, h2, h3⟩ := h
  exact ⟨A, c, blk_below h1 hb, Kd.C_below h2 hb, h3⟩
/-- Theirs at a node. -/
def ThC (x : S24) : Prop := ∀ (A : Option Addr) (c : Nat) (w : World), Kd.C k24 w A x.f3.length x.f3 → x.f3.length ≤ c →
  Calls Tryd.prog 10 #[.agg #[.int .i64 x.f0, .int .i64 x.f1, .string x.f2, .slice A x.f3.length c]] w fun e w' => e = .returned (enc (theirs x)) ∧ Below w.heap.size w w'
set_option maxHeartbeats 1000000 in
set_option maxRecDepth 100000 in
theorem part_calls (x : S24) (i : Nat) (hi : i ≤ 1) (b : Nat) (w : World) (h : NodeAt w b x) (ih : ∀ y ∈ x.f3, ThC y) :
    Calls Tryd.prog 21 #[.int .i64 (i : Int), .pointer (some ⟨b, 0, none⟩)] w fun e w' => e = .returned (enc (part x i)) ∧ Below w.heap.size w w' := by
  obtain ⟨A, c, hb, hC, hc⟩ := h
  have c3 : w.cell? ⟨b, 3, none⟩ = some (.slice A x.f3.length c) := (blk_cell hb 3).trans rfl
  have hbl : b < w.heap.size := blk_lt hb
  unfold part
  by_cases hlt : i < x.f3.length
  · rw [dif_pos hlt]
    have hd : decide ((i : Int) < (x.f3.length : Int)) = true := decide_eq_true (by omega)
    have hd' : decide (i < x.f3.length) = true := decide_eq_true hlt
    have hm : x.f3[i] ∈ x.f3 := List.getElem_mem hlt
    have hT := Aside0.mk (ih _ hm)
    have p1 : 0 ≤ (i : Int) := by omega
    have q1 : (i : Int) < (x.f3.length : Int) := by omega
    obtain ⟨ad, A3, k3, e1, y0, y1, y2, y3, hk3, hC3⟩ := at_T24 hC (i : Int) p1 q1
    cases e1
    have hrd : rd_T24 x.f3 (i : Int) = x.f3[i] := by simp [rd_T24, List.getD_eq_getElem?_getD, hlt]
    rw [hrd] at y0 y1 y2 y3 hk3 hC3
    rw [show ((i : Int)).toNat = i from by simp] at y0 y1 y2 y3
    obtain ⟨y, hy⟩ : ∃ y, x.f3[i] = y := ⟨_, rfl⟩
    rw [hy] at y0 y1 y2 y3 hk3 hC3 hT ⊢
    have hTC := Aside0.mk (hT.out A3 k3 w hC3 hk3)
    have hC3' := Aside0.mk hC3
    clear hC hC3 hb ih hm hrd hy
    go_enter Tryd.func21, Tryd.ntmps21
    go_wp2_with (first | (go_at_call 10; (with_reducible refine hTC.out.mono ?_); rintro e w1 ⟨rfl, hb1⟩; have hb1' := Aside0.mk hb1; clear hb1) | fail)
    go_ret
    exact ⟨rfl, hb1'.out⟩
  · rw [dif_neg hlt]
    have hd : decide ((i : Int) < (x.f3.length : Int)) = false := decide_eq_false (by omega)
    have hd' : decide (i < x.f3.length) = false := decide_eq_false hlt
    clear hC hb ih
    go_enter Tryd.func21, Tryd.ntmps21
    go_wp2
    go_ret
    exact ⟨rfl, Below.refl _ _⟩
set_option maxHeartbeats 4000000 in
set_option maxRecDepth 100000 in
theorem theirs_step (x : S24) (ih : ∀ y ∈ x.f3, ThC y) : ThC x := by
  intro A c w hC hc
  have hN : ∀ W, Below w.heap.size (w.alloc (.cells #[.int .i64 x.f0, .int .i64 x.f1, .string x.f2, .slice A x.f3.length c] 24)) W → True := fun _ _ => trivial
  have hP := Aside0.mk (fun (i : Nat) (hi : i ≤ 1) b w h => part_calls x i hi b w h ih)
  have hC' := Aside0.mk hC
  rw [theirs_eq]
  obtain ⟨v0, hv0⟩ : ∃ v, enc (part x 0) = v := ⟨_, rfl⟩
  obtain ⟨v1, hv1⟩ : ∃ v, enc (part x 1) = v := ⟨_, rfl⟩
  have hf0 : v0 = .nilIface ∨ ∃ t u, v0 = .iface t u := hv0 ▸ enc_form _
  have hf1 : v1 = .nilIface ∨ ∃ t u, v1 = .iface t u := hv1 ▸ enc_form _
  have hP0 : Aside0 (∀ b w, NodeAt w b x → Calls Tryd.prog 21 #[.int .i64 0, .pointer (some ⟨b, 0, none⟩)] w fun e w' => e = .returned v0 ∧ Below w.heap.size w w') := ⟨fun b w h => by have q := hP.out 0 (by omega) b w h; rw [hv0] at q; exact q⟩
  have hP1 : Aside0 (∀ b w, NodeAt w b x → Calls Tryd.prog 21 #[.int .i64 1, .pointer (some ⟨b, 0, none⟩)] w fun e w' => e = .returned v1 ∧ Below w.heap.size w w') := ⟨fun b w h => by have q := hP.out 1 (by omega) b w h; rw [hv1] at q; exact q⟩
  have hE : enc (if x.f0 = 1 then .lit x.f1 else if x.f0 = 2 then .ref x.f2 else if x.f0 = 3 then .not (part x 0) else if x.f0 = 4 then .neg (part x 0) else if x.f0 = 5 then .bin x.f2 (part x 0) (part x 1) else .none)
      = if x.f0 = 1 then .iface 48 (.agg #[.int .i64 x.f1]) else if x.f0 = 2 then .iface 58 (.agg #[.string x.f2]) else if x.f0 = 3 then .iface 60 (.agg #[v0]) else if x.f0 = 4 then .iface 61 (.agg #[v0]) else if x.f0 = 5 then .iface 50 (.agg #[.string x.f2, v0, v1]) else .nilIface := by
    rw [← hv0, ← hv1]
    repeat' split
    all_goals rfl
  rw [hE]
  have hNode : ∀ (W : World), W.heap[w.heap.size]? = some (.cells #[.int .i64 x.f0, .int .i64 x.f1, .string x.f2, .slice A x.f3.length c] 24 (0, 0)) → Below w.heap.size w W → NodeAt W w.heap.size x := fun W h1 h2 => ⟨A, c, h1, Kd.C_below hC h2, hc⟩
  have hNode' := Aside0.mk hNode
  obtain ⟨k, n, s, l⟩ := x
  simp only [] at hC hc hP0 hP1 hNode' ⊢
  clear hN hC hv0 hv1 hE hNode hP ih
  by_cases k1 : k = 1
  · subst k1
    rw [if_pos rfl]
    go_enter Tryd.func10, Tryd.ntmps10
    go_wp2
    go_ret
    exact ⟨rfl, below_alloc (Below.refl _ _) _⟩
  · have k1' : (k == 1) = false := by simpa using k1
    rw [if_neg k1]
    clear k1
    by_cases k2 : k = 2
    · subst k2
      rw [if_pos rfl]
      go_enter Tryd.func10, Tryd.ntmps10
      go_wp2
      go_ret
      exact ⟨rfl, below_alloc (Below.refl _ _) _⟩
    · have k2' : (k == 2) = false := by simpa using k2
      rw [if_neg k2]
      clear k2
      by_cases k3 : k = 3
      · subst k3
        rw [if_pos rfl]
        rcases hf0 with rfl | ⟨t, u, rfl⟩
        all_goals
          go_enter Tryd.func10, Tryd.ntmps10
          go_wp2_with (first | (go_at_call 21; (with_reducible refine (hP0.out _ _ (hNode'.out _ (blk_new _ _) (below_alloc (Below.refl _ _) _))).mono ?_); rintro e w1 ⟨rfl, hb1⟩; have hb1' := Aside0.mk hb1; clear hb1) | fail)
          go_ret
          exact ⟨rfl, below_step (below_alloc (Below.refl _ _) _) hb1'.out⟩
      · have k3' : (k == 3) = false := by simpa using k3
        rw [if_neg k3]
        clear k3
        by_cases k4 : k = 4
        · subst k4
          rw [if_pos rfl]
          rcases hf0 with rfl | ⟨t, u, rfl⟩
          all_goals
            go_enter Tryd.func10, Tryd.ntmps10
            go_wp2_with (first | (go_at_call 21; (with_reducible refine (hP0.out _ _ (hNode'.out _ (blk_new _ _) (below_alloc (Below.refl _ _) _))).mono ?_); rintro e w1 ⟨rfl, hb1⟩; have hb1' := Aside0.mk hb1; clear hb1) | fail)
            go_ret
            exact ⟨rfl, below_step (below_alloc (Below.refl _ _) _) hb1'.out⟩
        · have k4' : (k == 4) = false := by simpa using k4
          rw [if_neg k4]
          clear k4
          by_cases k5 : k = 5
          · subst k5
            rw [if_pos rfl]
            rcases hf0 with rfl | ⟨t, u, rfl⟩ <;> rcases hf1 with rfl | ⟨t2, u2, rfl⟩
            all_goals
              go_enter Tryd.func10, Tryd.ntmps10
              go_upto_region 12 with fail
              refine wp_world (fun W hW => ?_)
              have hBW : Below w.heap.size w W := by rw [hW]; exact below_alloc (Below.refl _ _) _
              have hX : W.heap[w.heap.size]? = some (.cells #[.int .i64 5, .int .i64 n, .string s, .slice A l.length c] 24 (0, 0)) := by rw [hW]; exact blk_new _ _
              have hN5 := Aside0.mk (hNode'.out W hX hBW)
              obtain ⟨b, hb⟩ : ∃ b, w.heap.size = b := ⟨_, rfl⟩
              rw [hb] at hN5 hX
              rw [hb]
              have o2 : W.cell? ⟨b, 2, none⟩ = some (.string s) := (blk_cell hX 2).trans rfl
              have o2' := Aside0.mk o2
              have hBW' := Aside0.mk hBW
              clear hW hX hBW
              go_region_held3 (fun w' => w'.cell? ⟨b, 2, none⟩ = some (.string s))
                (refine keepx (W := W) o2'.out (by repeat (first | (with_reducible exact Below.refl _ _) | (with_reducible exact hX4.out) | (with_reducible exact hX5.out) | (with_reducible refine below_drew ?_))))
                (first
                  | (go_at_call 21; (with_reducible refine (hP0.out b _ (hN5.out.below (below_drew (Below.refl _ _)))).mono ?_); rintro e w4 ⟨rfl, hb4⟩; have hX4 : Aside0 (Below W.heap.size W w4) := ⟨(below_drew (Below.refl _ _)).trans hb4⟩; clear hb4)
                  | (go_at_call 21; (with_reducible refine (hP1.out b _ (hN5.out.below hX4.out)).mono ?_); rintro e w5 ⟨rfl, hb5⟩; have hX5 : Aside0 (Below W.heap.size W w5) := ⟨hX4.out.trans (hb5.mono hX4.out.size)⟩; clear hb5)
                  | fail)
              go_wp2
              go_ret
              subst hb
              exact ⟨rfl, below_step hBW'.out hX5.out⟩
          · have k5' : (k == 5) = false := by simpa using k5
            rw [if_neg k5]
            clear k5
            go_enter Tryd.func10, Tryd.ntmps10
            go_wp2
            go_ret
            exact ⟨rfl, below_alloc (Below.refl _ _) _⟩
theorem theirs_calls : ∀ (m : Nat) (x : S24), SizeOf.sizeOf x < m → ThC x
  | 0, x, h => by omega
  | m + 1, x, h => theirs_step x (fun y hy => theirs_calls m y (by have := mem_size hy; omega))
theorem Theirs_calls (x : S24) : ThC x := theirs_calls _ x (Nat.lt_succ_self _)
end Go.Proofs.YtdhlbhkpleoicaaDoor.Exp
