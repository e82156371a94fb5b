/- DiskPlays, walked. -/
import Derived.Test.YtnplnelhodnonaaDkSame
namespace Go.Proofs.Ytnplnelhodnonaa.Dsk
open Go.RowKit Go.Proofs.YtnplnelhodnonaaW.PrintWords Go.Proofs.YtnplnelhodnonaaW.PrintLast Go.Proofs.YtnplnelhodnonaaW.PrintMore Go.Proofs.Ytnplnelhodnonaa.PDiskNil
open Amap Frm
set_option linter.unusedVariables false
set_option linter.unusedSimpArgs false
theorem few_l0 (l : List S33) (hl : l.length ≤ 9223372036854775806) (hx : ∀ i : Nat, i < l.length → (rd_T33 l (i : Int)).f4.length ≤ 140737488351232) : ∀ (d i n : Nat), l.length ≤ i + d → i ≤ l.length → i ≤ 150 → n ≤ 50000 → (∀ j : Nat, j < i → (rd_T33 l (j : Int)).f4.length ≤ 50000 ∧ (rd_T33 l (j : Int)).f5.length ≤ 100) →
    ∃ b, (b = true → l.length ≤ 150 ∧ ∀ j : Nat, j < l.length → (rd_T33 l (j : Int)).f4.length ≤ 50000 ∧ (rd_T33 l (j : Int)).f5.length ≤ 100) ∧ ∀ k, d < k → tumbrellaw14_Few.l0 k l (n : Int) (l.length : Int) (i : Int) = some b
  | d, i, n, h1, h2, h3, h4, h5 => by
    by_cases hlt : i < l.length
    · cases d with
      | zero => omega
      | succ d =>
        have hxi := hx i hlt
        by_cases h6 : (i : Int) ≥ 150
        · refine ⟨false, by simp, fun k hk => ?_⟩
          obtain ⟨k, rfl⟩ : ∃ m, k = m + 1 := ⟨k - 1, by omega⟩
          simp only [tumbrellaw14_Few.l0]
          rw [if_pos (by omega), if_pos (by omega), if_pos (by omega), if_pos h6]
        · have hw : wrap64 ((n : Int) + ((rd_T33 l (i : Int)).f4.length : Int)) = ((n + (rd_T33 l (i : Int)).f4.length : Nat) : Int) := by unfold wrap64; omega
          by_cases h7 : ((n + (rd_T33 l (i : Int)).f4.length : Nat) : Int) > 50000
          · refine ⟨false, by simp, fun k hk => ?_⟩
            obtain ⟨k, rfl⟩ : ∃ m, k = m + 1 := ⟨k - 1, by omega⟩
            simp only [tumbrellaw14_Few.l0]
            rw [if_pos (by omega), if_pos (by omega), if_pos (by omega), if_neg h6, hw, if_pos h7]
          · by_cases h8 : ((rd_T33 l (i : Int)).f5.length : Int) > 100
            · refine ⟨false, by simp, fun k hk => ?_⟩
              obtain ⟨k, rfl⟩ : ∃ m, k = m + 1 := ⟨k - 1, by omega⟩
              simp only [tumbrellaw14_Few.l0]
              rw [if_pos (by omega), if_pos (by omega), if_pos (by omega), if_neg h6, hw, if_neg h7, if_pos h8]
            · obtain ⟨b, hb, hf⟩ := few_l0 l hl hx d (i + 1) (n + (rd_T33 l (i : Int)).f4.length) (by omega) (by omega) (by omega) (by omega) (fun j hj => by
                by_cases e : j = i
                · subst e; omega
                · exact h5 j (by omega))
              refine ⟨b, hb, fun k hk => ?_⟩
              obtain ⟨k, rfl⟩ : ∃ m, k = m + 1 := ⟨k - 1, by omega⟩
              simp only [tumbrellaw14_Few.l0]
              rw [if_pos (by omega), if_pos (by omega), if_pos (by omega), if_neg h6, hw, if_neg h7, if_neg h8]
              rw [show wrap64 ((i : Int) + 1) = ((i + 1 : Nat) : Int) from by unfold wrap64; omega]
              exact hf k (by omega)
    · refine ⟨true, fun _ => ⟨by omega, fun j hj => h5 j (by omega)⟩, fun k hk => ?_⟩
      obtain ⟨k, rfl⟩ : ∃ m, k = m + 1 := ⟨k - 1, by omega⟩
      simp only [tumbrellaw14_Few.l0]
      rw [if_neg (by omega)]
termination_by d => d
theorem few_calls (l : List S33) (hl : l.length ≤ 9223372036854775806) (hx : ∀ x ∈ l, x.f4.length ≤ 140737488351232) : ∃ b, (b = true → l.length ≤ 150 ∧ ∀ x ∈ l, x.f4.length ≤ 50000 ∧ x.f5.length ≤ 100) ∧ ∀ (A : Option Addr) (c : Nat) (w : World), Kd.C k33 w A l.length l → l.length ≤ c →
    Calls Try.prog 11 #[.slice A l.length c] w fun e w' => e = .returned (.bool b) ∧ Drawn0 w w' := by
  have hrd : ∀ j : Nat, j < l.length → rd_T33 l (j : Int) ∈ l := fun j hj => by
    simp [rd_T33, List.getD_eq_getElem?_getD, List.getElem?_eq_getElem hj]
  obtain ⟨b, hb, hf⟩ := few_l0 l hl (fun i hi => hx _ (hrd i hi)) l.length 0 0 (by omega) (by omega) (by omega) (by omega) (fun j hj => absurd hj (by omega))
  refine ⟨b, fun e => ⟨(hb e).1, fun x hx => ?_⟩, fun A c w hC hc => tumbrellaw14_Few.calls (l.length + 1) A c l b w hC hc (hf _ (by omega))⟩
  obtain ⟨j, hj, e2⟩ := List.getElem_of_mem hx
  have := (hb e).2 j hj
  simpa [rd_T33, List.getD_eq_getElem?_getD, List.getElem?_eq_getElem hj, e2] using this
set_option maxHeartbeats 8000000 in
set_option maxRecDepth 100000 in
theorem plays_calls (room : Int) (A : Option Addr) (cp : Nat) (l : List S33) (w : World) (hroom : room ≤ 9223372036854775807) (hl : l.length ≤ 140737488351232) (hlen : ∀ x ∈ l, x.f4.length ≤ 140737488351232) (hwf : ∀ x ∈ l, domI x.f1) (hC : Kd.C k33 w A l.length l) (hc : l.length ≤ cp) :
    Calls Try.prog 3 #[.int .i64 room, .slice A l.length cp] w fun e w' => e = .returned (.bool true) ∧ Below w.heap.size w w' := by
  obtain ⟨b, hb150, hfew⟩ := few_calls l (by omega) hlen
  have hfew' := Aside0.mk hfew
  have hC' := Aside0.mk hC
  have hc' := Aside0.mk hc
  have hwf' := Aside0.mk hwf
  clear hfew hC hc hwf hlen
  cases b with
  | false =>
    go_enter Try.func3, Try.ntmps3
    go_wp2_with fail
    refine (awake_calls _).mono ?_
    rintro e w1 ⟨rfl, hb1⟩
    go_wp2_with fail
    refine (hfew'.out A cp _ (Kd.C_below hC'.out hb1) hc'.out).mono ?_
    rintro e w2 ⟨rfl, ⟨m, rfl⟩⟩
    go_wp2_with fail
    refine (awake_calls _).mono ?_
    rintro e w3 ⟨rfl, hb3⟩
    go_wp2
    go_ret
    exact ⟨rfl, below_step (pw_below_drewN hb1 m) hb3⟩
  | true =>
    obtain ⟨h150, hsmall⟩ := hb150 rfl
    have hsmall' := Aside0.mk hsmall
    clear hb150 hsmall
    go_enter Try.func3, Try.ntmps3
    go_wp2_with fail
    refine (awake_calls _).mono ?_
    rintro e w1 ⟨rfl, hb1⟩
    go_wp2_with fail
    refine (hfew'.out A cp _ (Kd.C_below hC'.out hb1) hc'.out).mono ?_
    rintro e w2 ⟨rfl, ⟨m, hm2⟩⟩
    have hb2 : Below w.heap.size w w2 := by rw [hm2]; exact pw_below_drewN hb1 m
    clear hm2 hb1
    have hs2 : w.heap.size ≤ w2.heap.size := hb2.size
    have hb2' := Aside0.mk hb2
    go_wp2_with fail
    refine (New_calls' room w2 (fun k => w2.heap.size ≤ k) (fun k hk => hk)).mono ?_
    rintro e w3 ⟨rfl, hL3, hb3⟩
    have hs3 : w2.heap.size ≤ w3.heap.size := hb3.size
    have hL3' := Aside0.mk hL3
    have hb3' := Aside0.mk hb3
    clear hL3 hb3 hb2
    go_wp2_with fail
    refine (RNew_calls room w3 (fun k => w3.heap.size ≤ k) (fun k hk => hk)).mono ?_
    rintro e w4 ⟨rfl, hR4, hb4⟩
    obtain ⟨pd, hpd⟩ : ∃ pd, w2.heap.size + 1 = pd := ⟨_, rfl⟩
    obtain ⟨pr, hpr⟩ : ∃ pr, w3.heap.size = pr := ⟨_, rfl⟩
    have hL3 := hL3'.out
    have hB0 : Aside0 (Both w.heap.size w4 (w2.heap.size + 1) w3.heap.size ⟨[], max room 0, 0, false, false⟩ ⟨[], max room 0, -1, false⟩) := ⟨both_new hs2 hL3 hR4 hb4 hs3⟩
    have hX0 : Aside0 (Below w.heap.size w w4) := ⟨(hb2'.out.trans (hb3'.out.mono hs2)).trans (hb4.mono (by omega))⟩
    have hI0 := Aside0.mk (Inv.new (max room 0) (by omega) (by omega))
    rw [hpd, hpr] at hB0
    rw [hpd, hpr]
    clear hL3 hL3' hb3' hR4 hb4 hpd hpr hs3 hs2 hb2'
    go_wp2_with fail
    go_loopg [22] (l.length + 1) (fun kq v22 w' => ∃ (i : Nat) (S : DSt) (R : RSt), v22 = .int .i64 (i : Int) ∧ Aside0 (kq + i = l.length + 1) ∧ Aside0 (i ≤ l.length) ∧ Aside0 (Inv i S R) ∧ Aside0 (Both w.heap.size w' pd pr S R) ∧ Aside0 (Below w.heap.size w w'))
    case atStart => exact ⟨0, _, _, rfl, ⟨by omega⟩, ⟨by omega⟩, hI0, hB0, hX0⟩
    case round =>
      obtain ⟨i, S, R, rfl, hk, hi, hI, hBo, hB⟩ := hrel
      by_cases hlt : i < l.length
      · have hd : decide ((i : Int) < (l.length : Int)) = true := decide_eq_true (by omega)
        have hd' : decide (i < l.length) = true := decide_eq_true hlt
        cases gk with
        | zero => exact absurd hk.out (by omega)
        | succ k1 =>
          have hi150 : i < 150 := by omega
          have hlt' := Aside0.mk hlt
          have p1 : 0 ≤ (i : Int) := by omega
          have q1 : (i : Int) < (l.length : Int) := by omega
          have hmem : rd_T33 l (i : Int) ∈ l := by simp [rd_T33, List.getD_eq_getElem?_getD, List.getElem?_eq_getElem hlt]
          have hxl := hsmall'.out _ hmem
          have hdom := hwf'.out _ hmem
          obtain ⟨ad, A4, c4, A5, c5, e1, y0, y1, y2, y3, y4, y5, hc4, hC4, hc5, hC5⟩ := at_T33 hC'.out (i : Int) p1 q1
          cases e1
          rw [show ((i : Int)).toNat = i from by simp] at y0 y1 y2 y3 y4 y5
          obtain ⟨x, hxx⟩ : ∃ x, rd_T33 l (i : Int) = x := ⟨_, rfl⟩
          rw [hxx] at y0 y1 y2 y3 y4 y5 hc4 hC4 hc5 hC5 hxl hdom
          obtain ⟨kd, xa, xb, xy, x, ks⟩ := x
          simp only [] at y0 y1 y2 y3 y4 y5 hc4 hC4 hc5 hC5 hxl hdom
          have z0 := keepx y0 hB.out
          have z1 := keepx y1 hB.out
          have z2 := keepx y2 hB.out
          have z3 := keepx y3 hB.out
          have z4 := keepx y4 hB.out
          have z5 := keepx y5 hB.out
          have hszr : w.heap.size ≤ wr.heap.size := hB.out.size
          have hC4' := Aside0.mk hC4
          have hC5' := Aside0.mk hC5
          have hdo := Aside0.mk (Do_calls hBo.out hszr hI.out (by omega) kd xa xb xy hdom A4 c4 x (fun w1 h1 => Kd.C_below hC4'.out (hB.out.trans h1.below)) hxl.1 A5 c5 ks (fun w1 h1 => Kd.C_below hC5'.out (hB.out.trans h1.below)) hxl.2 hc5)
          have hI2 := Aside0.mk (hI.out.op ⟨kd, xa, xb, xy, x, ks⟩ hdom hxl.1)
          obtain ⟨S1, hS1⟩ : ∃ S1, doD S ⟨kd, xa, xb, xy, x, ks⟩ = S1 := ⟨_, rfl⟩
          obtain ⟨R1, hR1⟩ : ∃ R1, doR R ⟨kd, xa, xb, xy, x, ks⟩ = R1 := ⟨_, rfl⟩
          rw [hS1, hR1] at hdo hI2
          clear hmem hxx y0 y1 y2 y3 y4 y5 hC4 hC5 hS1 hR1 hdom hxl hlt
          go_wp2_with fail
          refine hdo.out.mono ?_
          rintro e w5 ⟨rfl, hB5, hn5⟩
          have hs5 : w.heap.size ≤ w5.heap.size := Nat.le_trans hszr hn5.size
          have hB5' := Aside0.mk hB5
          have hX5 := Aside0.mk (hB.out.trans hn5.below)
          clear hB5 hn5 z0 z1 z2 z3 z4 z5
          go_wp2_with fail
          refine (Same_calls hB5'.out hs5 hI2.out (by omega)).mono ?_
          rintro e w6 ⟨rfl, hb6⟩
          have hB6 := Aside0.mk (hB5'.out.below hb6)
          have hX6 := Aside0.mk (hX5.out.trans (hb6.mono hs5))
          clear hb6
          go_wp2_with fail
          go_roundg k1
          case measure => have := hk.out; omega
          case rel => exact ⟨i + 1, S1, R1, by go_num, ⟨by have := hk.out; omega⟩, ⟨by have := hlt'.out; omega⟩, hI2, hB6, hX6⟩
      · have hd : decide ((i : Int) < (l.length : Int)) = false := decide_eq_false (by omega)
        have hd' : decide (i < l.length) = false := decide_eq_false hlt
        go_wp2
        go_ret
        exact ⟨rfl, hB.out⟩
end Go.Proofs.Ytnplnelhodnonaa.Dsk
