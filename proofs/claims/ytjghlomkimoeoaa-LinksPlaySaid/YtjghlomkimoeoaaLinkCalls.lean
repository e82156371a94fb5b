/- New, party, Total, Count, Peek of links, walked. -/
import Derived.Test.YtjghlomkimoeoaaLinkRep
import Derived.Deep.RegionHeld3
import Derived.Deep.DeepCutAuto
import Derived.Deep.QuietTactic
import Derived.BigQuiet
namespace Go.Proofs.Ytjghlomkimoeoaa.Lnk
open Go.RowKit Go.Proofs.YtjghlomkimoeoaaW.PrintWords Go.Proofs.YtjghlomkimoeoaaW.PrintLast Go.Proofs.YtjghlomkimoeoaaW.PrintMore Go.Proofs.Ytjghlomkimoeoaa.PLinksPlay
open Amap
set_option linter.unusedVariables false
set_option linter.unusedSimpArgs false
def clamp (n : Int) : Int := if n < 0 then 0 else if 100 < n then 100 else n
theorem new_is (q : Int) (ok : Nat → Prop) (w : World) (hb : ∀ k, w.heap.size ≤ k → ok k) : IsLink ok ((w.alloc (.map #[] 0)).alloc (.cells #[.int .i64 q, .map (some w.heap.size), .int .i64 0] 115)) (w.heap.size + 1) ⟨q, []⟩ := by
  refine ⟨[], w.heap.size, ⟨hb _ (by omega), ?_, hb _ (Nat.le_refl _), (MapIs.made w).move (Below.heap_alloc _ _ _ (by simp)), rfl, by simp, by simp⟩⟩
  have h := blk_new (w.alloc (.map #[] 0)) (.cells #[.int .i64 q, .map (some w.heap.size), .int .i64 0] 115)
  rw [show (w.alloc (.map #[] 0)).heap.size = w.heap.size + 1 from by simp] at h
  exact h
set_option maxHeartbeats 2000000 in
set_option maxRecDepth 100000 in
theorem New_calls (n : Int) (w : World) (ok : Nat → Prop) (hb : ∀ k, w.heap.size ≤ k → ok k) : Calls Try.prog 18 #[.int .i64 n] w fun e w' => e = .returned (.pointer (some ⟨w.heap.size + 1, 0, none⟩)) ∧ IsLink ok w' (w.heap.size + 1) ⟨clamp n, []⟩ ∧ Below w.heap.size w w' := by
  have hmm := @run_makeMap Try.prog
  have hcl : clamp n = if n < 0 then 0 else if 100 < n then 100 else n := rfl
  obtain ⟨q, hq⟩ : ∃ q, clamp n = q := ⟨_, rfl⟩
  rw [hq] at hcl ⊢
  have hcl' := Aside0.mk hcl
  clear hq hcl
  by_cases h0 : n < 0
  · have e1 : q = 0 := by rw [hcl'.out, if_pos h0]
    subst e1
    go_enter Try.func18, Try.ntmps18
    go_wp2
    go_ret
    exact ⟨rfl, new_is _ ok w hb, below_alloc (below_alloc (Below.refl _ _) _) _⟩
  · by_cases h1 : 100 < n
    · have e1 : q = 100 := by rw [hcl'.out, if_neg h0, if_pos h1]
      subst e1
      go_enter Try.func18, Try.ntmps18
      go_wp2
      go_ret
      exact ⟨rfl, new_is _ ok w hb, below_alloc (below_alloc (Below.refl _ _) _) _⟩
    · have e1 : q = n := by rw [hcl'.out, if_neg h0, if_neg h1]
      subst e1
      go_enter Try.func18, Try.ntmps18
      go_wp2
      go_ret
      exact ⟨rfl, new_is _ ok w hb, below_alloc (below_alloc (Below.refl _ _) _) _⟩

section
variable {ok : Nat → Prop} {w : World} {p : Nat} {S : LSt} {M : List (Key × Ln)} {b : Nat}
theorem LinkAt.line_eq (h : LinkAt ok w p S M b) (k : Key) : line S.L k = ((mlook M k).map (·.2)).getD [] := by
  unfold line
  rw [h.L]
  generalize M = N
  induction N with
  | nil => rfl
  | cons q N ih =>
    simp only [List.map_cons, mlook]
    split
    · rfl
    · exact ih
theorem mlook_mem {κ α : Type} [DecidableEq κ] {m : List (κ × α)} {x : κ} {v : α} (h : mlook m x = some v) : (x, v) ∈ m := by
  induction m with
  | nil => simp [mlook] at h
  | cons p m ih =>
    unfold mlook at h
    split at h
    · rename_i e
      cases h
      subst e
      exact List.mem_cons_self ..
    · exact List.mem_cons_of_mem _ (ih h)
/-- The line of a key, in memory. -/
theorem LinkAt.at (h : LinkAt ok w p S M b) (k : Key) : ∃ A c, Kd.Q kB 25 w 0 ok (.slice A (line S.L k).length c) (line S.L k) ∧ ((mlook M k).map lval).getD (.slice none 0 0) = .slice A (line S.L k).length c := by
  rw [h.line_eq k]
  cases hk : mlook M k with
  | none => exact ⟨none, 0, Kd.Q_nil _ _ _ _ _, rfl⟩
  | some x =>
    have hq := h.rows _ (mlook_mem hk)
    obtain ⟨A, c, hv, _⟩ := Kd.Q_slice hq
    obtain ⟨v, xs⟩ := x
    simp only [] at hv hq
    subst hv
    exact ⟨A, c, hq, rfl⟩
theorem LinkAt.look (h : LinkAt ok w p S M b) {k : Key} (hk : domK k) : ∃ A c, Kd.Q kB 25 w 0 ok (.slice A (line S.L k).length c) (line S.L k) ∧ (Instr.lookup 113 (.map (some b)) (ekey k) false).run Try.prog w = .ok (.slice A (line S.L k).length c) w := by
  obtain ⟨A, c, hq, he⟩ := h.at k
  have hz : (zeroValue 117).run Try.prog w = .ok (.slice none 0 0) w := by kernel_rfl
  have hl := h.map.lookup encK Try.underlying113 hz hk false
  simp only [Bool.false_eq_true, if_false] at hl
  rw [he] at hl
  exact ⟨A, c, hq, hl⟩
end
set_option maxHeartbeats 1000000 in
set_option maxRecDepth 100000 in
theorem party_calls (S : LSt) (n : Int) (ok : Nat → Prop) (p : Nat) (w : World) (h : IsLink ok w p S) : Calls Try.prog 73 #[.pointer (some ⟨p, 0, none⟩), .int .i64 n] w fun e w' => e = .returned (.bool (party S n)) ∧ w = w' := by
  obtain ⟨M, b, h⟩ := h
  have p0 : w.cell? ⟨p, 0, none⟩ = some (.int .i64 S.parties) := (blk_cell h.blk 0).trans rfl
  obtain ⟨q, hq⟩ : ∃ q, S.parties = q := ⟨_, rfl⟩
  have hpt : party S n = (decide (0 ≤ n) && decide (n < q)) := by unfold party; rw [hq]
  rw [hq] at p0
  rw [hpt]
  clear h hq hpt
  by_cases h0 : 0 ≤ n
  · by_cases h1 : n < q
    · have d0 : decide (0 ≤ n) = true := decide_eq_true h0
      have d1 : decide (n < q) = true := decide_eq_true h1
      go_enter Try.func73, Try.ntmps73
      go_wp2
      go_ret
      exact ⟨by simp [h0, h1], rfl⟩
    · have d0 : decide (0 ≤ n) = true := decide_eq_true h0
      have d1 : decide (n < q) = false := decide_eq_false h1
      go_enter Try.func73, Try.ntmps73
      go_wp2
      go_ret
      exact ⟨by simp [h0, h1], rfl⟩
  · have d0 : decide (0 ≤ n) = false := decide_eq_false h0
    go_enter Try.func73, Try.ntmps73
    go_wp2
    go_ret
    exact ⟨by simp [h0], rfl⟩
set_option maxHeartbeats 1000000 in
set_option maxRecDepth 100000 in
theorem Total_calls (S : LSt) (ok : Nat → Prop) (p : Nat) (w : World) (h : IsLink ok w p S) : Calls Try.prog 23 #[.pointer (some ⟨p, 0, none⟩)] w fun e w' => e = .returned (.int .i64 (tot S.L : Nat)) ∧ w = w' := by
  obtain ⟨M, b, h⟩ := h
  have p2 : w.cell? ⟨p, 2, none⟩ = some (.int .i64 (tot S.L : Nat)) := (blk_cell h.blk 2).trans rfl
  clear h
  go_enter Try.func23, Try.ntmps23
  go_wp2
  go_ret
  exact ⟨rfl, rfl⟩
set_option maxHeartbeats 1000000 in
set_option maxRecDepth 100000 in
theorem Count_calls (S : LSt) (a c : Int) (hk : domK (a, c)) (ok : Nat → Prop) (p : Nat) (w : World) (h : IsLink ok w p S) : Calls Try.prog 22 #[.pointer (some ⟨p, 0, none⟩), .int .i64 a, .int .i64 c] w fun e w' => e = .returned (.int .i64 ((line S.L (a, c)).length : Nat)) ∧ w = w' := by
  obtain ⟨M, b, h⟩ := h
  have p1 : w.cell? ⟨p, 1, none⟩ = some (.map (some b)) := (blk_cell h.blk 1).trans rfl
  obtain ⟨A, cc, hq, hl⟩ := h.look hk
  unfold ekey at hl
  simp only [] at hl
  clear h hq
  obtain ⟨n, hn⟩ : ∃ n, (line S.L (a, c)).length = n := ⟨_, rfl⟩
  rw [hn] at hl ⊢
  clear hn
  go_enter Try.func22, Try.ntmps22
  go_wp2
  go_ret
  exact ⟨rfl, rfl⟩
theorem line_at {w : World} {base : Nat} {ok : Nat → Prop} {A : Option Addr} {n c : Nat} {xs : List (List Int)} (hq : Kd.Q kB 25 w base ok (.slice A n c) xs) {i : Nat} {x : List Int} (hx : xs[i]? = some x) :
    ∃ ad A2 c2, A = some ad ∧ w.cell? (ad.add i) = some (.slice A2 x.length c2) ∧ x.length ≤ c2 ∧ Kd.C (Kd.int .u8) w A2 x.length x := by
  obtain ⟨hn, _, hC⟩ := Kd.Q_reads' hq
  have hi : i < xs.length := (List.getElem?_eq_some_iff.1 hx).1
  obtain ⟨ad, c1, hA, hl, hK, hc⟩ := Kd.C_get hC [] (i : Int) (by omega) (by omega)
  have hge : xs.getD ((i : Int)).toNat [] = x := by simp [List.getD_eq_getElem?_getD, hx]
  rw [hge] at hK
  obtain ⟨A2, c2, hcs, hlc, hC2⟩ := hK
  subst hcs
  refine ⟨ad, A2, c2, hA, ?_, hlc, hC2⟩
  have := hc 0 _ rfl
  simpa [kB, Kd.slice] using this
theorem clone_f (x : List Int) (h : x.length ≤ 1000000) : slices_Clone_byte_byte.f x = some x := by
  unfold slices_Clone_byte_byte.f
  simp only [Option.bind_some, List.length_nil, List.nil_append]
  rw [if_pos (by omega)]
theorem Clone_at (A : Option Addr) (c : Nat) (x : List Int) (w : World) (hC : Kd.C (Kd.int .u8) w A x.length x) (hc : x.length ≤ c) (hx : x.length ≤ 1000000) :
    Calls Try.prog 74 #[.slice A x.length c] w fun e w' => ∃ A2 c2, e = .returned (.slice A2 x.length c2) ∧ Kd.R (Kd.int .u8) 5 w' w.heap.size (fun _ => True) (.slice A2 x.length c2) x ∧ Below w.heap.size w w' := by
  refine (slices_Clone_byte_byte.calls A c x x w hC hc (clone_f x hx)).mono ?_
  rintro e w' ⟨v, rfl, hR, hb⟩
  obtain ⟨A2, c2, rfl⟩ := Kd.R_slice hR
  exact ⟨A2, c2, rfl, hR, hb⟩
def peek (S : LSt) (k : Key) (i : Int) : Option (List Int) := if 0 ≤ i then (line S.L k)[i.toNat]? else none
theorem peek_some {S : LSt} {k : Key} {i : Int} {x : List Int} (h : peek S k i = some x) : 0 ≤ i ∧ i < (line S.L k).length ∧ (line S.L k)[i.toNat]? = some x := by
  unfold peek at h
  split at h
  · rename_i h0
    have := (List.getElem?_eq_some_iff.1 h).1
    exact ⟨h0, by omega, h⟩
  · cases h
theorem peek_none {S : LSt} {k : Key} {i : Int} (h : peek S k i = none) : i < 0 ∨ (line S.L k).length ≤ i := by
  unfold peek at h
  split at h
  · rename_i h0
    have := List.getElem?_eq_none_iff.1 h
    right; omega
  · rename_i h0
    left; omega
def Small (S : LSt) : Prop := tot S.L ≤ 100 ∧ ∀ q ∈ S.L, ∀ x ∈ q.2, x.length ≤ 1000000
theorem Small.line {S : LSt} (h : Small S) (k : Key) : (line S.L k).length ≤ 100 ∧ ∀ x ∈ line S.L k, x.length ≤ 1000000 := by
  obtain ⟨ht, hx⟩ := h
  unfold Lnk.line
  revert ht hx
  generalize S.L = L
  intro ht hx
  induction L with
  | nil => simp [mlook]
  | cons q L ih =>
    simp only [tot] at ht
    simp only [mlook]
    split
    · exact ⟨by simp; omega, fun x hm => hx q (by simp) x (by simpa using hm)⟩
    · exact ih (by omega) (fun q' hq' => hx q' (by simp [hq']))
set_option maxHeartbeats 1000000 in
set_option maxRecDepth 100000 in
theorem Peek_some (S : LSt) (a c i : Int) (hk : domK (a, c)) (x : List Int) (hx : peek S (a, c) i = some x) (hs : Small S) (ok : Nat → Prop) (p : Nat) (w : World) (h : IsLink ok w p S) :
    Calls Try.prog 20 #[.pointer (some ⟨p, 0, none⟩), .int .i64 a, .int .i64 c, .int .i64 i] w fun e w' => ∃ A2 c2, e = .returned (.tuple #[.slice A2 x.length c2, .bool true]) ∧ Kd.R (Kd.int .u8) 5 w' w.heap.size (fun _ => True) (.slice A2 x.length c2) x ∧ Below w.heap.size w w' := by
  obtain ⟨h0, h1, hxi⟩ := peek_some hx
  have h' := Aside0.mk h
  obtain ⟨M, b, h⟩ := h
  have p1 : w.cell? ⟨p, 1, none⟩ = some (.map (some b)) := (blk_cell h.blk 1).trans rfl
  obtain ⟨A, cc, hq, hl⟩ := h.look hk
  unfold ekey at hl
  simp only [] at hl
  obtain ⟨ad, A2, c2, rfl, hcell, hlc, hC⟩ := line_at hq hxi
  have hx1 : x.length ≤ 1000000 := (hs.line (a, c)).2 x (List.mem_of_getElem? hxi)
  have hn100 := (hs.line (a, c)).1
  have hcnt := Aside0.mk (Count_calls S a c hk ok p w h'.out)
  obtain ⟨n, hn⟩ : ∃ n, (line S.L (a, c)).length = n := ⟨_, rfl⟩
  rw [hn] at hl h1 hn100 hcnt
  have hC' := Aside0.mk hC
  clear h hq hn hxi hx hs hC h'
  have d0 : decide (i < 0) = false := decide_eq_false (by omega)
  have d1 : decide ((n : Int) ≤ i) = false := decide_eq_false (by omega)
  have hi100 : i ≤ 100 := by omega
  go_enter Try.func20, Try.ntmps20
  go_wp2_with (first
    | (go_at_call 22; (with_reducible refine hcnt.out.mono ?_); rintro e w1 ⟨rfl, rfl⟩)
    | (go_at_call 74; (with_reducible refine (Clone_at A2 c2 x _ hC'.out hlc hx1).mono ?_); rintro e w2 ⟨A3, c3, rfl, hR, hb⟩)
    | fail)
  go_ret2
  exact ⟨_, _, rfl, hR, hb⟩
set_option maxHeartbeats 1000000 in
set_option maxRecDepth 100000 in
theorem Peek_none (S : LSt) (a c i : Int) (hk : domK (a, c)) (hx : peek S (a, c) i = none) (ok : Nat → Prop) (p : Nat) (w : World) (h : IsLink ok w p S) :
    Calls Try.prog 20 #[.pointer (some ⟨p, 0, none⟩), .int .i64 a, .int .i64 c, .int .i64 i] w fun e w' => e = .returned (.tuple #[.slice none 0 0, .bool false]) ∧ w = w' := by
  have hcnt := Aside0.mk (Count_calls S a c hk ok p w h)
  have hpn := peek_none hx
  obtain ⟨n, hn⟩ : ∃ n, (line S.L (a, c)).length = n := ⟨_, rfl⟩
  rw [hn] at hpn hcnt
  clear hn hx h
  by_cases h0 : i < 0
  · have d0 : decide (i < 0) = true := decide_eq_true h0
    clear hpn
    go_enter Try.func20, Try.ntmps20
    go_wp2
    go_ret2
    exact ⟨rfl, rfl⟩
  · have d0 : decide (i < 0) = false := decide_eq_false h0
    have d1 : decide ((n : Int) ≤ i) = true := decide_eq_true (by omega)
    clear hpn
    go_enter Try.func20, Try.ntmps20
    go_wp2_with (first
      | (go_at_call 22; (with_reducible refine hcnt.out.mono ?_); rintro e w1 ⟨rfl, rfl⟩)
      | fail)
    go_ret2
    exact ⟨rfl, rfl⟩
end Go.Proofs.Ytjghlomkimoeoaa.Lnk
