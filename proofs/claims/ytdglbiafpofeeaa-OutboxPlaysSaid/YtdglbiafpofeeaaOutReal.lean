/- The outbox's methods, walked. -/
import Derived.Test.YtdglbiafpofeeaaOutDelF
import Derived.Test.YtdglbiafpofeeaaOutForm
namespace Go.Proofs.Ytdglbiafpofeeaa.Obx
open Go.RowKit Go.Proofs.YtdglbiafpofeeaaW.PrintWords Go.Proofs.YtdglbiafpofeeaaW.PrintLast Go.Proofs.YtdglbiafpofeeaaW.PrintMore Go.Proofs.Ytdglbiafpofeeaa.POutboxNil
open Frm
set_option linter.unusedVariables false
set_option linter.unusedSimpArgs false
theorem C_one {w : World} {g e : Nat} (x : Lt) (h : w.heap[g]? = some (.cells #[.int .i64 x.to, .int .i64 x.kind, .int .i64 x.inst, .int .i64 x.turn, .string x.name, .int .i64 x.att, .bool x.ok] e (0, 0))) : Kd.C kLt w (some ⟨g, 0, none⟩) 1 [x] := by
  refine ⟨rfl, by decide, fun _ => ⟨_, rfl, fun j p hj => ?_⟩⟩
  cases j with
  | zero =>
    simp at hj
    subst hj
    refine ⟨ltC x, rfl, Kd.K_of_M kLt (kLt_mk w 0 (fun _ => True) x), fun i u hu => ?_⟩
    have := World.news_of_block h i u hu
    simpa using this
  | succ j => simp at hj
set_option maxHeartbeats 1000000 in
set_option maxRecDepth 100000 in
theorem All_calls (L : List Lt) (hl : L.length ≤ 1000) (ok : Nat → Prop) (p : Nat) (w : World) (h : IsO 74 59 ok w p L) :
    Calls Try.prog 27 #[.pointer (some ⟨p, 0, none⟩)] w fun e w' => ∃ v, e = .returned v ∧ Kd.R kLt 59 w' w.heap.size (fun _ => True) v L ∧ Below w.heap.size w w' := by
  obtain ⟨v, h⟩ := h
  obtain ⟨A, cap, rfl, hcap, hC⟩ := h.form
  have p0 := h.cell
  have hcl := Aside0.mk (Clone_calls A cap L hl w hC)
  clear h hC
  go_enter Try.func27, Try.ntmps27
  go_wp2_with fail
  refine hcl.out.mono ?_
  rintro e w1 ⟨v, rfl, hR, hB⟩
  obtain ⟨A2, c2, rfl⟩ := Kd.R_slice hR
  have hR' := Aside0.mk hR
  have hB' := Aside0.mk hB
  clear hR hB
  go_wp2
  go_ret
  exact ⟨_, rfl, hR'.out, hB'.out⟩
set_option maxHeartbeats 1000000 in
set_option maxRecDepth 100000 in
theorem Contains_calls (f : Lt → Bool) (cap : Value) (L : List Lt) (hl : L.length ≤ 1000) (A : Option Addr) (cp : Nat) (w : World) (hC : Kd.C kLt w A L.length L)
    (hcl : ∀ W : World, Below w.heap.size w W → ∀ x ∈ L, Calls Try.prog 49 #[.agg #[.int .i64 x.to, .int .i64 x.kind, .int .i64 x.inst, .int .i64 x.turn, .string x.name, .int .i64 x.att, .bool x.ok], cap] W fun e w' => e = .returned (.bool (f x)) ∧ Below W.heap.size W w') :
    Calls Try.prog 48 #[.slice A L.length cp, .func (.func 49) #[] #[cap]] w fun e w' => e = .returned (.bool (L.any f)) ∧ Below w.heap.size w w' := by
  have hi := Aside0.mk (Index_49 f cap L hl A cp w hC hcl)
  have ha := idx_any f L 0
  cases hf : idx f L 0 with
  | none =>
    have e1 : find f L = none := hf
    rw [hf] at ha
    rw [e1] at hi
    rw [← ha]
    clear ha hC hcl hf e1
    go_enter Try.func48, Try.ntmps48
    go_wp2_with fail
    refine hi.out.mono ?_
    rintro e w1 ⟨rfl, hb⟩
    have hb' := Aside0.mk hb
    clear hb
    unfold idxV
    simp only []
    go_wp2
    go_ret
    exact ⟨rfl, hb'.out⟩
  | some j =>
    have e1 : find f L = some j := hf
    rw [hf] at ha
    rw [e1] at hi
    rw [← ha]
    have hd : decide ((0 : Int) ≤ (j : Int)) = true := decide_eq_true (by omega)
    clear ha hC hcl hf e1
    go_enter Try.func48, Try.ntmps48
    go_wp2_with fail
    refine hi.out.mono ?_
    rintro e w1 ⟨rfl, hb⟩
    have hb' := Aside0.mk hb
    clear hb
    unfold idxV
    simp only []
    go_wp2
    go_ret
    exact ⟨by simp, hb'.out⟩
set_option maxHeartbeats 4000000 in
set_option maxRecDepth 100000 in
theorem Forget_calls (L : List Lt) (hl : L.length ≤ 1000) (nn : Int) (ok : Nat → Prop) (p : Nat) (w : World) (h : IsO 74 59 ok w p L) :
    Calls Try.prog 26 #[.pointer (some ⟨p, 0, none⟩), .int .i64 nn] w fun e w' => e = .returned (.int .i64 (forget L nn).2) ∧ IsO 74 59 ok w' p (forget L nn).1 ∧ Fk [74, 59] ok w w' := by
  obtain ⟨v, h⟩ := h
  obtain ⟨A, cap, rfl, hcap, hC⟩ := h.form
  have p0 := h.cell
  have f0 : w.frozen? ⟨p, 0, none⟩ = false := blk_frozen h.blk 0
  have hpl : p < w.heap.size := blk_lt h.blk
  have hW : Below w.heap.size w (w.alloc (.cells #[.int .i64 nn] 3)) := below_alloc (Below.refl _ _) _
  have hdel : Aside0 (Calls Try.prog 50 #[.slice A L.length cap, .func (.func 51) #[] #[.pointer (some ⟨w.heap.size, 0, none⟩)]] (w.alloc (.cells #[.int .i64 nn] 3)) fun e w' => ∃ v2, e = .returned (.slice v2 (L.filter (stays nn)).length cap) ∧ Kd.R kLt 59 w' 0 (fun k => ok k ∧ k ≠ p) (.slice v2 (L.filter (stays nn)).length cap) (L.filter (stays nn)) ∧ (w.alloc (.cells #[.int .i64 nn] 3)).grownBy w' (Value.slice A L.length cap).ownBlock) := by
    refine ⟨?_⟩
    rcases Nat.eq_zero_or_pos L.length with h0 | h0
    · have hL : L = [] := List.eq_nil_of_length_eq_zero h0
      subst hL
      refine (DeleteFunc_same nn w.heap.size cap A [] _ (Kd.C_below hC hW) (blk_new _ _) hl rfl).mono ?_
      rintro e w' ⟨rfl, h1⟩
      exact ⟨A, rfl, Kd.R_below (Kd.R_below h.row hW) h1, grown_of_below h1 _⟩
    · obtain ⟨g, cap', e, _, _, _⟩ := Kd.R_form h.row h0
      cases e
      refine (DeleteFunc_calls nn w.heap.size g cap L _ _ (Kd.R_below h.row hW) (blk_new _ _) hl).mono ?_
      rintro e w' ⟨rfl, h1, h2⟩
      exact ⟨_, rfl, h1, h2⟩
  have hfg : forget L nn = (L.filter (stays nn), (L.length : Int) - ((L.filter (stays nn)).length : Int)) := rfl
  rw [hfg]
  have hFl : (L.filter (stays nn)).length ≤ L.length := List.length_filter_le _ _
  obtain ⟨F, hF⟩ : ∃ F, L.filter (stays nn) = F := ⟨_, rfl⟩
  rw [hF] at hdel hFl ⊢
  have h' := Aside0.mk h
  clear h hC hfg hF hW
  go_enter Try.func26, Try.ntmps26
  go_wp2_with fail
  refine hdel.out.mono ?_
  rintro e w2 ⟨v2, rfl, hR2, hg2⟩
  have hp1 : (w.alloc (.cells #[.int .i64 nn] 3)).heap[p]? = some (.cells #[.slice A L.length cap] 74 (0, 0)) := blk_alloc h'.out.blk _
  have hp2 := blk_grown hp1 hg2 (fun e => (h'.out.row.1 p e.symm).2 rfl)
  have p02 : w2.cell? ⟨p, 0, none⟩ = some (.slice A L.length cap) := (blk_cell hp2 0).trans rfl
  have f02 : w2.frozen? ⟨p, 0, none⟩ = false := blk_frozen hp2 0
  have hO := Aside0.mk (h'.out.store hp2 hR2)
  have hK := Aside0.mk ((((Fk.of_below (T := [74, 59]) (ok := ok) (below_alloc (Below.refl w.heap.size w) (.cells #[.int .i64 nn] 3))).row (Kd.R_alloc h'.out.row _) (by simp) (fun k hk => hk.1) hg2)).set hp2 (by simp) h'.out.pk 0 (.slice v2 F.length cap))
  clear hR2 hg2 hp1 hp2 p0 f0
  go_wp2
  go_ret
  exact ⟨rfl, ⟨_, hO.out⟩, hK.out⟩
end Go.Proofs.Ytdglbiafpofeeaa.Obx
