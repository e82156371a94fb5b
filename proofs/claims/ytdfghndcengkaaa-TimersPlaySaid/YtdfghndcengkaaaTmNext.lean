/- Next, walked: maps.Values, slices.Collect out of the shelf; slices.Min by hand. -/
import Derived.Test.YtdfghndcengkaaaTmVals
namespace Go.Proofs.Ytdfghndcengkaaa.Tmr
open Go.RowKit Go.Proofs.YtdfghndcengkaaaW.PrintWords Go.Proofs.YtdfghndcengkaaaW.PrintLast Go.Proofs.YtdfghndcengkaaaW.PrintMore Go.Proofs.Ytdfghndcengkaaa.PTimersPlay
open Amap Frm Go.Shelf
set_option linter.unusedVariables false
set_option linter.unusedSimpArgs false
theorem take_mem {L : List Int} {i : Nat} (h : i < L.length) {x : Int} : x ∈ L.take (i + 1) ↔ x ∈ L.take i ∨ x = L[i] := by
  rw [List.take_succ_eq_append_getElem h, List.mem_append, List.mem_singleton]
set_option maxHeartbeats 2000000 in
set_option maxRecDepth 100000 in
theorem Min_calls (A : Option Addr) (cap : Nat) (L : List Int) (w : World) (hC : Kd.C (Kd.int .i64) w A L.length L) (h0 : 1 ≤ L.length) (hl : L.length ≤ 1000) : Calls Try.prog 24 #[.slice A L.length cap] w fun e w' => ∃ m, e = .returned (.int .i64 m) ∧ m ∈ L ∧ (∀ x ∈ L, m ≤ x) ∧ w = w' := by
  have hC' := Aside0.mk hC
  have hrd : ∀ (i : Nat) (h : i < L.length), rd L (i : Int) = L[i] := fun i h => by unfold rd; simp [List.getElem?_eq_getElem h]
  obtain ⟨ad, hA, hc0⟩ := Kd.at_int hC (0 : Int) (by omega) (by omega)
  subst hA
  have e0 := hrd 0 (by omega)
  simp only [Int.natCast_zero] at e0
  rw [e0] at hc0
  obtain ⟨m0, hm0⟩ : ∃ m0, L[0] = m0 := ⟨_, rfl⟩
  rw [hm0] at hc0
  have hc1 : w.cell? ad = some (.int .i64 m0) := by
    have e2 : ad.add (0 : Int).toNat = ad := by cases ad; simp [Addr.add]
    rw [e2] at hc0
    exact hc0
  have hm0' : Aside0 (L.take 1 = [m0]) := ⟨by rw [← hm0]; cases L with
    | nil => simp at h0
    | cons x r => rfl⟩
  have hd0 : decide ((L.length : Int) < 1) = false := decide_eq_false (by omega)
  have q0 : (0 : Int) < (L.length : Int) := by omega
  have hrd' := Aside0.mk hrd
  have h0' := Aside0.mk h0
  clear e0 hm0 hrd hC h0
  go_enter Try.func24, Try.ntmps24
  go_wp2_with fail
  go_loopg [3, 4] (L.length) (fun kq v3 v4 w' => ∃ (i : Nat) (m : Int), v3 = .int .i64 m ∧ v4 = .int .i64 (i : Int) ∧ Aside0 (kq + i = L.length + 1) ∧ Aside0 (1 ≤ i) ∧ Aside0 (i ≤ L.length) ∧ Aside0 (m ∈ L.take i) ∧ Aside0 (∀ x ∈ L.take i, m ≤ x) ∧ w' = w)
  case atStart =>
    have h1 := hm0'.out
    exact ⟨1, m0, rfl, rfl, ⟨by have := h0'.out; omega⟩, ⟨Nat.le_refl _⟩, ⟨h0'.out⟩, ⟨by rw [h1]; simp⟩, ⟨by rw [h1]; simp⟩, rfl⟩
  case round =>
    obtain ⟨i, m, rfl, rfl, hk, hi1, hi, hm, hle, rfl⟩ := hrel
    clear hc0 hc1 q0 hd0
    by_cases hlt : i < L.length
    · have hd : decide ((i : Int) < (L.length : Int)) = true := decide_eq_true (by omega)
      have hd' : decide (i < L.length) = true := decide_eq_true hlt
      cases gk with
      | zero => exact absurd hk.out (by omega)
      | succ gk1 =>
        obtain ⟨ad2, hA, hc0⟩ := Kd.at_int hC'.out (i : Int) (by omega) (by omega)
        injection hA with hA
        subst hA
        rw [hrd'.out i hlt, show ((i : Int)).toNat = i from by simp] at hc0
        obtain ⟨q, hq⟩ : ∃ q, L[i] = q := ⟨_, rfl⟩
        rw [hq] at hc0
        have hmm : Aside0 (min m q ∈ L.take (i + 1)) := ⟨by
          rw [take_mem hlt, hq]
          rcases Int.le_total m q with h | h
          · rw [Int.min_eq_left h]; exact .inl hm.out
          · rw [Int.min_eq_right h]; exact .inr rfl⟩
        have hml : Aside0 (∀ x ∈ L.take (i + 1), min m q ≤ x) := ⟨fun x hx => by
          rw [take_mem hlt, hq] at hx
          rcases hx with hx | rfl
          · exact Int.le_trans (Int.min_le_left _ _) (hle.out x hx)
          · exact Int.min_le_right _ _⟩
        have p1 : 0 ≤ (i : Int) := by omega
        have q1 : (i : Int) < (L.length : Int) := by omega
        have hlt' := Aside0.mk hlt
        clear hq hm hle
        go_wp2_with fail
        go_roundg gk1
        case measure => have := hk.out; omega
        case rel => exact ⟨i + 1, _, rfl, by go_num, ⟨by have := hk.out; omega⟩, ⟨by omega⟩, ⟨by have := hlt'.out; omega⟩, hmm, hml, rfl⟩
    · have hd : decide ((i : Int) < (L.length : Int)) = false := decide_eq_false (by omega)
      have hd' : decide (i < L.length) = false := decide_eq_false hlt
      have hie := Aside0.mk (show i = L.length by have := hi.out; omega)
      clear hlt
      go_wp2
      go_ret
      have h1 := hm.out
      have h2 := hle.out
      rw [hie.out, List.take_length] at h1 h2
      exact ⟨m, rfl, h1, h2, rfl⟩
def Nxt (T : Tms) (e : Ending) : Prop := (T = [] ∧ e = .returned (.tuple #[.int .i64 0, .bool false])) ∨ ∃ m, (∃ q ∈ T, q.2 = m) ∧ (∀ q ∈ T, m ≤ q.2) ∧ e = .returned (.tuple #[.int .i64 m, .bool true])
set_option maxHeartbeats 4000000 in
set_option maxRecDepth 100000 in
theorem Next_none (T : Tms) (ok : Nat → Prop) (p : Nat) (w : World) (h : IsT ok w p T) (hT : T = []) : Calls Try.prog 16 #[.pointer (some ⟨p, 0, none⟩)] w fun e w' => Nxt T e ∧ Below w.heap.size w w' := by
  have hln := Len_calls T ok p w h
  subst hT
  have hn : Aside0 (Nxt ([] : Tms) (.returned (.tuple #[.int .i64 0, .bool false]))) := ⟨.inl ⟨rfl, rfl⟩⟩
  clear h
  go_enter Try.func16, Try.ntmps16
  go_wp2_with (first | (go_at_call 17; (with_reducible refine hln.mono ?_); rintro e w' ⟨rfl, rfl⟩) | go_in)
  refine bodyPost_ret (v := .tuple #[.int .i64 0, .bool false]) (by simp [results, Try.results16, go_sem]) rfl ?_
  exact ⟨hn.out, Below.refl _ _⟩
set_option maxHeartbeats 4000000 in
set_option maxRecDepth 100000 in
theorem Next_some (T : Tms) (b : Nat) (ok : Nat → Prop) (p : Nat) (w : World) (h : TAt ok w p T (some b)) (hT : T ≠ []) (hl : T.length ≤ 200) : Calls Try.prog 16 #[.pointer (some ⟨p, 0, none⟩)] w fun e w' => Nxt T e ∧ Below w.heap.size w w' := by
  obtain ⟨D0, hown, hsz, hall⟩ := map_owns (h.map b rfl).2 h.vals hl
  have hln := Len_calls T ok p w ⟨_, h⟩
  have hmp := h.cell
  have hbl := (h.map b rfl).2.lt
  have hT1 : 1 ≤ T.length := by
    cases T with
    | nil => exact absurd rfl hT
    | cons => simp
  obtain ⟨N, hN⟩ : ∃ N, T.length = N := ⟨_, rfl⟩
  rw [hN] at hln hall hsz hl hT1 hown
  refine (callsIn_wide (n := 6)).1 ?_
  have cL : CallsIn Fence.wide 5 Try.prog 17 #[.pointer (some ⟨p, 0, none⟩)] w fun e w' => e = .returned (.int .i64 N) ∧ w = w' := callsIn_wide.2 hln
  have cV : ∀ mb W, CallsIn Fence.wide 5 Try.prog 26 #[.map mb] W fun e w' => e = .returned (.func (.func 32) #[] #[.pointer (some ⟨W.heap.size, 0, none⟩)]) ∧ w' = W.alloc (.cells #[.map mb] 31) := fun mb W => AnyY.values_in layV Fence.wide 5 trivial rfl mb W
  have hseq : SeqGives Fence.wide 3 Try.prog 32 #[.pointer (some ⟨w.heap.size, 0, none⟩)] encZ (fun xs => ∃ ps, AnyY.AllOf D0 ps ∧ xs = ps.map (·.2)) (Go.Maps.size D0) (w.alloc (.cells #[.map (some b)] 31)) :=
    (AnyY.values_stops (ρ := renV) { layV with } Fence.wide 3 trivial rfl (by omega) w.heap.size b N D0 (w.alloc (.cells #[.map (some b)] 31)) (by simp) (by simp) (by
      obtain ⟨es, clock, hb, Ft, hs, hD⟩ := hown
      exact ⟨es, clock, (Below.heap_alloc _ _ b hbl).trans hb, Ft, hs, hD⟩)).gives
  have hmx : Go.Maps.size D0 ≤ maxLen := by
    have : (200 : Nat) ≤ maxLen := by decide
    omega
  have cC := AnyZI.collect_in layC Fence.wide 5 trivial trivial rfl (by omega) 32 #[.pointer (some ⟨w.heap.size, 0, none⟩)] trivial (enters_of Try.func32 (by kernel_rfl) rfl) _ _ hmx (by omega) _ hseq
  change CallsIn _ _ Try.prog 25 _ _ _ at cC
  have cM : ∀ (A : Option Addr) (cap : Nat) (L : List Int) (W : World), Kd.C (Kd.int .i64) W A L.length L → 1 ≤ L.length → L.length ≤ 1000 → CallsIn Fence.wide 5 Try.prog 24 #[.slice A L.length cap] W fun e w' => ∃ m, e = .returned (.int .i64 m) ∧ m ∈ L ∧ (∀ x ∈ L, m ≤ x) ∧ W = w' := fun A cap L W h1 h2 h3 => callsIn_wide.2 (Min_calls A cap L W h1 h2 h3)
  have hf1 : Fence.wide.fn 17 := trivial
  have hf2 : Fence.wide.fn 26 := trivial
  have hf3 : Fence.wide.fn 25 := trivial
  have hf4 : Fence.wide.fn 24 := trivial
  have hall' := Aside0.mk hall
  have hl' := Aside0.mk hl
  have hT1' := Aside0.mk hT1
  have hNz : ((N : Int) == 0) = false := by simp; omega
  have hNz' : (N == 0) = false := by simp; omega
  have hall2 : Aside0 (∀ m, (∃ q ∈ T, q.2 = m) → (∀ q ∈ T, m ≤ q.2) → Nxt T (.returned (.tuple #[.int .i64 m, .bool true]))) := ⟨fun m h1 h2 => .inr ⟨m, h1, h2, rfl⟩⟩
  clear hown hall hsz hseq h hN hln hmx hl hT hT1 hbl
  refine callsIn_of_wp Try.func16 rfl trivial ?_ rfl
  simp only [Try.ntmps16, List.size_toArray, List.length_cons, List.length_nil, Nat.reduceAdd, Nat.reduceSub, Array.replicate_succ, Array.replicate_zero, List.push_toArray, List.append_toArray, List.nil_append, List.cons_append]
  gi_wp2_with (first
    | (gi_at_call 17; refine cL.mono ?_; rintro e w' ⟨rfl, rfl⟩)
    | (gi_at_call 26; refine (cV _ _).mono ?_; rintro e w' ⟨rfl, rfl⟩)
    | (gi_at_call 25; refine cC.mono ?_; rintro e w3 ⟨v, ss, rfl, ⟨ps, hps, hss⟩, hrow, hnil, hb⟩
       have hR : Kd.R (Kd.int .i64) 2 w3 0 (fun _ => True) v ss := Kd.R_of_own (h1 := fun _ => rfl) (ownsRow_base_a hrow (Nat.zero_le _)) (fun _ _ => trivial)
       obtain ⟨A, cap, hv, _, hC⟩ := Kd.R_reads hR
       subst hv
       obtain ⟨a1, a2, a3⟩ := hall'.out ps hps
       have hlen : ss.length = N := by rw [hss, List.length_map, a1]
       have hps' := Aside0.mk hps
       have hss' := Aside0.mk hss
       have hb' := Aside0.mk hb
       have a2' := Aside0.mk a2
       have a3' := Aside0.mk a3
       have cM' := cM A cap ss w3 hC (by have := hT1'.out; omega) (by have := hl'.out; omega)
       clear cM hR hC hrow hnil hps hss hb a1 a2 a3 hlen cC cV cL)
    | (gi_at_call 24; refine cM'.mono ?_; rintro e w4 ⟨m, rfl, hm1, hm2, rfl⟩))
  refine bodyPost_ret (v := .tuple #[.int .i64 m, .bool true]) (by simp [results, Try.results16, go_sem]) rfl ?_
  refine ⟨hall2.out m ?_ ?_, (below_alloc (Below.refl w.heap.size w) _).trans (hb'.out.mono (by simp))⟩
  · rw [hss'.out] at hm1
    exact a2'.out m hm1
  · intro q hq
    exact hm2 _ (by rw [hss'.out]; exact a3'.out q hq)
theorem Next_calls (T : Tms) (ok : Nat → Prop) (p : Nat) (w : World) (h : IsT ok w p T) (hl : T.length ≤ 200) : Calls Try.prog 16 #[.pointer (some ⟨p, 0, none⟩)] w fun e w' => Nxt T e ∧ Below w.heap.size w w' := by
  by_cases hT : T = []
  · exact Next_none T ok p w h hT
  · obtain ⟨mo, h⟩ := h
    cases mo with
    | none => exact absurd (h.none rfl) hT
    | some b => exact Next_some T b ok p w h hT hl
end Go.Proofs.Ytdfghndcengkaaa.Tmr
