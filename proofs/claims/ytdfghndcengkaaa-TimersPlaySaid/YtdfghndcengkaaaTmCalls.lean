/- The timers' functions, walked: New, Set, Due, Stop, Len. -/
import Derived.Test.YtdfghndcengkaaaTmRep
namespace Go.Proofs.Ytdfghndcengkaaa.Tmr
open Go.RowKit Go.Proofs.YtdfghndcengkaaaW.PrintWords Go.Proofs.YtdfghndcengkaaaW.PrintLast Go.Proofs.YtdfghndcengkaaaW.PrintMore Go.Proofs.Ytdfghndcengkaaa.PTimersPlay
open Amap Frm
set_option linter.unusedVariables false
set_option linter.unusedSimpArgs false
set_option linter.unusedSectionVars false
theorem new_is (ok : Nat → Prop) (w : World) (hok : ∀ k, w.heap.size ≤ k → ok k) : IsT ok (w.alloc (.cells #[.map none] 33)) w.heap.size [] :=
  ⟨none, hok _ (Nat.le_refl _), blk_new _ _, by simp, by simp, by simp⟩
set_option maxHeartbeats 2000000 in
set_option maxRecDepth 100000 in
theorem New_calls (w : World) : Calls Try.prog 6 #[] w fun e w' => e = .returned (.pointer (some ⟨w.heap.size, 0, none⟩)) ∧ w' = w.alloc (.cells #[.map none] 33) := by
  go_enter Try.func6, Try.ntmps6
  go_wp2
  go_ret
  exact ⟨rfl, rfl⟩
section
variable (T : Tms) (ok : Nat → Prop) (p : Nat) (w : World) (h : IsT ok w p T)
include h
set_option maxHeartbeats 2000000 in
set_option maxRecDepth 100000 in
theorem Due_calls (k : ByteArray) (hk : domS k) : Calls Try.prog 14 #[.pointer (some ⟨p, 0, none⟩), .string k] w fun e w' => e = .returned (.tuple #[.int .i64 (due T k), .bool (there T k)]) ∧ w = w' := by
  obtain ⟨mo, h⟩ := h
  have c0 := h.cell
  have hlk := h.look hk
  clear h
  go_enter Try.func14, Try.ntmps14
  go_wp2
  refine bodyPost_ret (v := .tuple #[.int .i64 (due T k), .bool (there T k)]) (by simp [results, Try.results14, go_sem]) rfl ?_
  exact ⟨rfl, rfl⟩
set_option maxHeartbeats 2000000 in
set_option maxRecDepth 100000 in
theorem Len_calls : Calls Try.prog 17 #[.pointer (some ⟨p, 0, none⟩)] w fun e w' => e = .returned (.int .i64 T.length) ∧ w = w' := by
  obtain ⟨mo, h⟩ := h
  have c0 := h.cell
  have hln := h.len 3
  clear h
  go_enter Try.func17, Try.ntmps17
  go_wp2
  go_ret
  exact ⟨rfl, rfl⟩
set_option maxHeartbeats 2000000 in
set_option maxRecDepth 100000 in
theorem Stop_calls (k : ByteArray) (hk : domS k) : Calls Try.prog 9 #[.pointer (some ⟨p, 0, none⟩), .string k] w fun e w' => e = .returned (.bool (there T k)) ∧ IsT ok w' p (mdel T k) ∧ Fz ok w w' := by
  have hd := Due_calls T ok p w h k hk
  obtain ⟨mo, h⟩ := h
  have c0 := h.cell
  cases ht : there T k with
  | false =>
    rw [ht] at hd
    have hx : mlook T k = none := by unfold there at ht; cases hx : mlook T k with
      | none => rfl
      | some d => rw [hx] at ht; cases ht
    have hm : mdel T k = T := mdel_none (mlook_none.1 hx)
    rw [hm]
    have h' := Aside0.mk h
    clear h hx hm
    go_enter Try.func9, Try.ntmps9
    go_wp2_with (first | (go_at_call 14; (with_reducible refine hd.mono ?_); rintro e w' ⟨rfl, rfl⟩) | fail)
    go_ret
    exact ⟨rfl, ⟨_, h'.out⟩, Fz.refl _ _⟩
  | true =>
    rw [ht] at hd
    cases mo with
    | none => rw [h.none rfl] at ht; cases ht
    | some b =>
      obtain ⟨w3, hrun, hm3, hg3⟩ := (h.map b rfl).2.delete encS Try.underlying31 hk 0
      unfold ek at hrun
      have h3 := Aside0.mk (h.wrote hm3 hg3 (fun q hq => h.vals q ((del_sub T k).subset hq)))
      clear h hm3 hg3
      go_enter Try.func9, Try.ntmps9
      go_wp2_with (first | (go_at_call 14; (with_reducible refine hd.mono ?_); rintro e w' ⟨rfl, rfl⟩) | fail)
      go_ret
      exact ⟨rfl, ⟨_, h3.out.1⟩, h3.out.2⟩
set_option maxHeartbeats 2000000 in
set_option maxRecDepth 100000 in
theorem Set_calls (hok : ∀ k, w.heap.size ≤ k → ok k) (k : ByteArray) (d : Int) (hk : domS k) (hd : domI d) : Calls Try.prog 7 #[.pointer (some ⟨p, 0, none⟩), .string k, .int .i64 d] w fun e w' => e = .returned (.tuple #[]) ∧ IsT ok w' p (tset T k d) ∧ Fz ok w w' := by
  obtain ⟨mo, h⟩ := h
  have c0 := h.cell
  have hmn := fun (W : World) (q : Option Nat) => run_eql_map_nil (P := Try.prog) W 31 9 2 q Try.underlying31
  cases mo with
  | none =>
    have hmm := @run_makeMap Try.prog
    have f0 := blk_frozen h.blk 0
    have hlt := blk_lt h.blk
    have hsz : (w.setCell ⟨p, 0, none⟩ (.map (some w.heap.size))).heap.size = w.heap.size := by simp
    obtain ⟨w2, hw2⟩ : ∃ w2, (w.setCell ⟨p, 0, none⟩ (.map (some w.heap.size))).alloc (.map #[] 0) = w2 := ⟨_, rfl⟩
    have hT := h.none rfl
    subst hT
    have h2 : TAt ok w2 p [] (some w.heap.size) := by
      subst hw2
      refine ⟨h.pk, blk_alloc (blk_put (cs := #[.map none]) h.blk 0 _ rfl) _, fun b e => ?_, by simp, by simp⟩
      cases e
      refine ⟨hok _ (Nat.le_refl _), ?_⟩
      have h3 := MapIs.made (ek := ek) (ev := ev) (dom := domS) (w.setCell ⟨p, 0, none⟩ (.map (some w.heap.size)))
      rwa [hsz] at h3
    have hF : Fz ok w w2 := by
      subst hw2
      exact ((Fz.refl ok w).set h.blk (by simp) h.pk 0 _).trans (Fz.of_below (below_alloc (Below.refl _ _) _) _)
    obtain ⟨w3, hrun, hm3, hg3⟩ := (h2.map _ rfl).2.update encS Try.underlying31 hk d
    have h3 := Aside0.mk (h2.wrote hm3 hg3 (vals_put h2.vals hd))
    have hF' := Aside0.mk hF
    have c2 := h2.cell
    have hrun' := Aside0.mk hrun
    have hw2' := Aside0.mk hw2
    clear h h2 hm3 hg3 hF hrun hw2
    go_enter Try.func7, Try.ntmps7
    go_wp2_with (first
      | (at_mapUpdate; rw [hw2'.out]; refine wpList_update_run rfl _ _ _ 31 rfl (.map (some w.heap.size)) (.string k) (.int .i64 d) rfl rfl rfl (R := fun z => w3 = z) ⟨w3, hrun'.out, rfl⟩ ?_; rintro z rfl)
      | go_in)
    go_end0
    exact ⟨rfl, ⟨_, h3.out.1⟩, hF'.out.trans h3.out.2⟩
  | some b =>
    obtain ⟨w3, hrun, hm3, hg3⟩ := (h.map _ rfl).2.update encS Try.underlying31 hk d
    have h3 := Aside0.mk (h.wrote hm3 hg3 (vals_put h.vals hd))
    have hrun' := Aside0.mk hrun
    clear h hm3 hg3 hrun
    go_enter Try.func7, Try.ntmps7
    go_wp2_with (first
      | (at_mapUpdate; refine wpList_update_run rfl _ _ _ 31 rfl (.map (some b)) (.string k) (.int .i64 d) rfl rfl rfl (R := fun z => w3 = z) ⟨w3, hrun'.out, rfl⟩ ?_; rintro z rfl)
      | go_in)
    go_end0
    exact ⟨rfl, ⟨_, h3.out.1⟩, h3.out.2⟩
end
end Go.Proofs.Ytdfghndcengkaaa.Tmr
