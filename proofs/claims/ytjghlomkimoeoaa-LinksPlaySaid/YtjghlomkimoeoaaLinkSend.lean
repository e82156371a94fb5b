/- Send, walked. -/
import Derived.Test.YtjghlomkimoeoaaLinkMid
import Derived.Deep.DeepMust
namespace Go.Proofs.Ytjghlomkimoeoaa.Lnk
open Go.RowKit Go.Proofs.YtjghlomkimoeoaaW.PrintWords Go.Proofs.YtjghlomkimoeoaaW.PrintLast Go.Proofs.YtjghlomkimoeoaaW.PrintMore Go.Proofs.Ytjghlomkimoeoaa.PLinksPlay
open Amap Stp
set_option linter.unusedVariables false
set_option linter.unusedSimpArgs false
theorem info25 : (Try.prog.info? 25).map (fun i => (i.zero, i.size, i.bytes)) = some (some (.slice none 0 0), 1, 24) := by kernel_rfl
theorem blk_new_at {w : World} {o : Obj} {g : Nat} (h : w.heap.size = g) : (w.alloc o).heap[g]? = some o := by subst h; exact blk_new _ _
theorem S3 {cur : World} {p t : Nat} {A B C : Value} {a c : Int} (hp : cur.heap[p]? = some (.cells #[A, B, C] 115 (0, 0))) (ht : cur.heap[t]? = some (.cells #[.int .i64 a, .int .i64 c] 116 (0, 0))) :
    cur.cell? ⟨p, 1, none⟩ = some B ∧ cur.cell? ⟨t, 0, none⟩ = some (.int .i64 a) ∧ cur.cell? ⟨t, 1, none⟩ = some (.int .i64 c) :=
  ⟨(blk_cell hp 1).trans rfl, (blk_cell ht 0).trans rfl, (blk_cell ht 1).trans rfl⟩
theorem IsLink.fr {T : List Nat} {ok : Nat → Prop} {base' : Nat} {w w1 : World} {p : Nat} {S : LSt} (h : IsLink ok w p S) (f : Fr T false base' w w1) (h1 : 115 ∉ T) (h2 : 25 ∉ T) (h3 : 5 ∉ T) : IsLink ok w1 p S := by
  obtain ⟨M, b, h⟩ := h
  obtain ⟨es, cl, hb, r⟩ := id h.map
  refine ⟨M, b, h.pk, f.same _ _ h.blk h1, h.bk, h.map.move ((f.same _ _ hb rfl).trans hb.symm), h.L, fun q hq => ?_, h.apart⟩
  refine Kd.Q_mono (Kd.Q_move (Kd.Q_bound (h.rows q hq)) (fun k hk => ?_)) (fun _ hk => hk.1)
  obtain ⟨_, _, _, t, ht, cells, hc⟩ := hk
  rw [hc]
  refine f.same _ _ hc ?_
  have : t = 25 ∨ t = 5 := by simpa [kB, Kd.slice, Kd.int, Kd.scalar] using ht
  rcases this with rfl | rfl
  · exact h2
  · exact h3
theorem IsLink.below {ok : Nat → Prop} {w w1 : World} {p : Nat} {S : LSt} (h : IsLink ok w p S) (f : Below w.heap.size w w1) : IsLink ok w1 p S :=
  h.fr (Fr.of_below (Nat.le_refl _) f [] false) (by simp) (by simp) (by simp)
theorem LinkAt.below {ok : Nat → Prop} {w w1 : World} {p : Nat} {S : LSt} {M : List (Key × Ln)} {b : Nat} (h : LinkAt ok w p S M b) (f : Below w.heap.size w w1) : LinkAt ok w1 p S M b :=
  ⟨h.pk, blk_below h.blk f, h.bk, h.map.move (f.block b h.map.lt), h.L, fun q hq => Kd.Q_below (h.rows q hq) f, h.apart⟩
set_option maxHeartbeats 1000000 in
set_option maxRecDepth 100000 in
theorem Send_no (S : LSt) (a c : Int) (v : Value) (ok : Nat → Prop) (p : Nat) (w : World) (h : IsLink ok w p S) (hth : there S (a, c) = false) :
    Calls Try.prog 19 #[.pointer (some ⟨p, 0, none⟩), .int .i64 a, .int .i64 c, v] w fun e w' => e = .returned (.int .i64 5) ∧ w = w' := by
  have ha := party_calls S a ok p w h
  have hc := party_calls S c ok p w h
  obtain ⟨pa, hpa⟩ : ∃ q, party S a = q := ⟨_, rfl⟩
  obtain ⟨pc, hpc⟩ : ∃ q, party S c = q := ⟨_, rfl⟩
  unfold there at hth
  simp only [] at hth
  rw [hpa, hpc] at hth
  rw [hpa] at ha
  rw [hpc] at hc
  have ha' := Aside0.mk ha
  have hc' := Aside0.mk hc
  clear ha hc hpa hpc h
  cases pa with
  | false =>
    clear hth
    go_enter Try.func19, Try.ntmps19
    go_wp2_with fail
    refine ha'.out.mono ?_
    rintro e w1 ⟨rfl, rfl⟩
    go_wp2
    go_ret
    exact ⟨rfl, rfl⟩
  | true =>
    cases pc with
    | false =>
      clear hth
      go_enter Try.func19, Try.ntmps19
      go_wp2_with fail
      refine ha'.out.mono ?_
      rintro e w1 ⟨rfl, rfl⟩
      go_wp2_with fail
      refine hc'.out.mono ?_
      rintro e w1 ⟨rfl, rfl⟩
      go_wp2
      go_ret
      exact ⟨rfl, rfl⟩
    | true =>
      have e : a = c := by simpa using hth
      subst e
      clear hth
      go_enter Try.func19, Try.ntmps19
      go_wp2_with fail
      refine ha'.out.mono ?_
      rintro e w1 ⟨rfl, rfl⟩
      go_wp2_with fail
      refine hc'.out.mono ?_
      rintro e w1 ⟨rfl, rfl⟩
      go_wp2
      go_ret
      exact ⟨rfl, rfl⟩
theorem there_true {S : LSt} {a c : Int} (h : there S (a, c) = true) : party S a = true ∧ party S c = true ∧ a ≠ c := by
  unfold there at h
  simp only [Bool.and_eq_true, Bool.not_eq_true', decide_eq_false_iff_not] at h
  exact ⟨h.1.1, h.1.2, h.2⟩
set_option maxHeartbeats 1000000 in
set_option maxRecDepth 100000 in
theorem Send_full (S : LSt) (a c : Int) (v : Value) (ok : Nat → Prop) (p : Nat) (w : World) (h : IsLink ok w p S) (hth : there S (a, c) = true) (hfull : 100 ≤ tot S.L) :
    Calls Try.prog 19 #[.pointer (some ⟨p, 0, none⟩), .int .i64 a, .int .i64 c, v] w fun e w' => e = .returned (.int .i64 7) ∧ w = w' := by
  obtain ⟨h1, h2, h3⟩ := there_true hth
  have ha := party_calls S a ok p w h
  have hc := party_calls S c ok p w h
  rw [h1] at ha
  rw [h2] at hc
  have ha' := Aside0.mk ha
  have hc' := Aside0.mk hc
  obtain ⟨M, b, h⟩ := h
  have p2 : w.cell? ⟨p, 2, none⟩ = some (.int .i64 (tot S.L : Nat)) := (blk_cell h.blk 2).trans rfl
  obtain ⟨t, ht⟩ : ∃ t, tot S.L = t := ⟨_, rfl⟩
  rw [ht] at p2 hfull
  have hac : (a == c) = false := by simpa using h3
  have hd : decide ((100 : Int) ≤ (t : Int)) = true := decide_eq_true (by omega)
  clear ha hc h h1 h2 h3 hth ht
  go_enter Try.func19, Try.ntmps19
  go_wp2_with fail
  refine ha'.out.mono ?_
  rintro e w1 ⟨rfl, rfl⟩
  go_wp2_with fail
  refine hc'.out.mono ?_
  rintro e w1 ⟨rfl, rfl⟩
  go_wp2
  go_ret
  exact ⟨rfl, rfl⟩
end Go.Proofs.Ytjghlomkimoeoaa.Lnk
