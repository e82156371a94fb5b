/- LinksFull, walked. -/
import Derived.Test.YtjghlomkimoeoaaLinkFill
namespace Go.Proofs.Ytjghlomkimoeoaa.Lnk
open Go.RowKit Go.Proofs.YtjghlomkimoeoaaW.PrintWords Go.Proofs.YtjghlomkimoeoaaW.PrintLast Go.Proofs.YtjghlomkimoeoaaW.PrintMore Go.Proofs.Ytjghlomkimoeoaa.PLinksPlay
open Amap Stp
set_option linter.unusedVariables false
set_option linter.unusedSimpArgs false
set_option maxHeartbeats 4000000 in
set_option maxRecDepth 100000 in
theorem full_calls (n : Nat) (h1 : n ≤ 255) (A : Option Addr) (cp : Nat) (x : List Int) (w : World) (hC : Kd.C (Kd.int .u8) w A x.length x) (hcp : x.length ≤ cp) :
    Calls Try.prog 6 #[.int .u8 (n : Int), .slice A x.length cp] w fun e w' => e = .returned (.bool true) ∧ Below w.heap.size w w' := by
  have hC' := Aside0.mk hC
  have hx : ∃ y, y = x := ⟨x, rfl⟩
  clear hC
  by_cases hl : x.length ≤ 100
  · have hd : decide ((100 : Int) < (x.length : Int)) = false := decide_eq_false (by omega)
    go_enter Try.func6, Try.ntmps6
    go_wp2_with fail
    refine (awake_calls _).mono ?_
    rintro e w1 ⟨rfl, hb1⟩
    have hb1' := Aside0.mk hb1
    have hs1 : w.heap.size ≤ w1.heap.size := hb1.size
    clear hb1
    go_wp2_with fail
    refine (New_calls 5 w1 w.heap.size hs1).mono ?_
    rintro e w2 ⟨rfl, hL2, hb2⟩
    have hb2' : Aside0 (Below w.heap.size w w2) := ⟨hb1'.out.trans (hb2.mono hs1)⟩
    have hL2' : Aside0 (IsLink w.heap.size w2 (w1.heap.size + 1) ⟨5, []⟩) := ⟨hL2⟩
    clear hL2 hb2
    go_wp2_with fail
    go_loopg [23] 101 (fun kq v23 w' => ∃ (i : Nat) (S : LSt), v23 = .int .i64 (i : Int) ∧ Aside0 (kq + i = 101) ∧ Aside0 (i ≤ 100) ∧ Aside0 (Filled x i S) ∧ Aside0 (IsLink w.heap.size w' (w1.heap.size + 1) S) ∧ Aside0 (Below w.heap.size w w'))
    case atStart => exact ⟨0, _, rfl, ⟨by omega⟩, ⟨by omega⟩, ⟨filled_new x⟩, hL2', hb2'⟩
    case round =>
      obtain ⟨i, S, rfl, hk, hi, hF, hL, hB⟩ := hrel
      by_cases hlt : i < 100
      · cases gk with
        | zero => exact absurd hk.out (by omega)
        | succ k1 =>
          have hd1 : decide ((i : Int) < 100) = true := decide_eq_true (by omega)
          have hi100 : (i : Int) < 100 := by omega
          obtain ⟨S', hS', hF'⟩ : ∃ S', send S (((i % 4 : Nat) : Int), 4) x = (S', 0) ∧ Filled x (i + 1) S' := ⟨_, filled_step hF.out hlt⟩
          have hF2 := Aside0.mk hF'
          rw [show ((i % 4 : Nat) : Int) = (i : Int) % 4 from by omega] at hS'
          have hS2 := Aside0.mk hS'
          clear hF' hS'
          go_wp2_with fail
          refine (Send_calls S ((i : Int) % 4) 4 (dom_small (by omega) (by omega) (by omega) (by omega)) A cp x w.heap.size _ _ hB.out.size hL.out (Kd.C_below hC'.out hB.out) hcp (by omega)).mono ?_
          rintro e w3 ⟨rfl, hL3, hf3⟩
          rw [hS2.out] at hL3 ⊢
          have hL3' := Aside0.mk hL3
          have hB3 : Aside0 (Below w.heap.size w w3) := ⟨hB.out.trans hf3.below⟩
          clear hL3 hf3
          go_wp2
          go_roundg k1
          case measure => have := hk.out; omega
          case rel => exact ⟨i + 1, S', by go_num, ⟨by have := hk.out; omega⟩, ⟨by omega⟩, hF2, hL3', hB3⟩
      · have hd1 : decide ((i : Int) < 100) = false := decide_eq_false (by omega)
        obtain rfl : i = 100 := by have := hi.out; omega
        obtain ⟨q1, q2, q3, q4, q5, S3, q6, q7, q8⟩ := full_end hF.out hl (n % 4) (n % 25) (by omega) (by omega)
        have hsz : w.heap.size ≤ wr.heap.size := hB.out.size
        have en : ((n % 4 : Nat) : Int) = (n : Int) % 4 := by omega
        have em : ((n % 25 : Nat) : Int) = (n : Int) % 25 := by omega
        rw [en] at q2 q3 q5 q6
        rw [em] at q3 q5 q6
        have q1' := Aside0.mk q1
        have q2' := Aside0.mk q2
        have q3' := Aside0.mk q3
        have q4' := Aside0.mk q4
        have q5' := Aside0.mk q5
        have q6' := Aside0.mk q6
        have q7' := Aside0.mk q7
        have q8' := Aside0.mk q8
        have hdom := Aside0.mk (dom_small (a := (n : Int) % 4) (c := 4) (by omega) (by omega) (by omega) (by omega))
        have hdom2 := Aside0.mk (dom_small (a := 0) (c := 1) (by omega) (by omega) (by omega) (by omega))
        clear q1 q2 q3 q4 q5 q6 q7 q8 en em
        go_wp2_with fail
        refine (Send_calls S 0 1 hdom2.out A cp x w.heap.size _ _ hsz hL.out (Kd.C_below hC'.out hB.out) hcp (by omega)).mono ?_
        rintro e w3 ⟨rfl, hL3, hf3⟩
        rw [q1'.out] at hL3 ⊢
        have hL3' := Aside0.mk hL3
        have hB3 : Aside0 (Below w.heap.size w w3) := ⟨hB.out.trans hf3.below⟩
        clear hL3 hf3
        go_wp2_with fail
        refine (Double_calls S ((n : Int) % 4) 4 0 hdom.out q4'.out w.heap.size _ _ hB3.out.size hL3'.out).mono ?_
        rintro e w4 ⟨rfl, hL4, hf4⟩
        rw [q2'.out] at hL4 ⊢
        have hL4' := Aside0.mk hL4
        have hB4 : Aside0 (Below w.heap.size w w4) := ⟨hB3.out.trans hf4.below⟩
        clear hL4 hf4
        go_wp2_with fail
        refine (Take_some S ((n : Int) % 4) 4 ((n : Int) % 25) hdom.out x q3'.out q4'.out w.heap.size _ _ hB4.out.size hL4'.out).mono ?_
        rintro e w5 ⟨A5, c5, rfl, _, hL5, hf5⟩
        have hL5' := Aside0.mk hL5
        have hB5 : Aside0 (Below w.heap.size w w5) := ⟨hB4.out.trans hf5.below⟩
        clear hL5 hf5
        go_wp2_with fail
        refine (Double_calls _ ((n : Int) % 4) 4 0 hdom.out q5'.out w.heap.size _ _ hB5.out.size hL5'.out).mono ?_
        rintro e w6 ⟨rfl, hL6, hf6⟩
        rw [q6'.out] at hL6 ⊢
        have hL6' := Aside0.mk hL6
        have hB6 : Aside0 (Below w.heap.size w w6) := ⟨hB5.out.trans hf6.below⟩
        clear hL6 hf6
        go_wp2_with fail
        refine (Send_calls S3 0 1 hdom2.out A cp x w.heap.size _ _ hB6.out.size hL6'.out (Kd.C_below hC'.out hB6.out) hcp (by omega)).mono ?_
        rintro e w7 ⟨rfl, hL7, hf7⟩
        rw [q7'.out] at hL7 ⊢
        have hL7' := Aside0.mk hL7
        have hB7 : Aside0 (Below w.heap.size w w7) := ⟨hB6.out.trans hf7.below⟩
        have q8 := q8'.out
        clear hL7 hf7
        go_wp2_with (first | (go_at_call 23; (refine (Total_calls S3 w.heap.size _ _ hL7'.out).mono ?_); rintro e w8 ⟨rfl, rfl⟩; rw [q8'.out]) | fail)
        go_ret
        exact ⟨rfl, hB7.out⟩
  · have hd : decide ((100 : Int) < (x.length : Int)) = true := decide_eq_true (by omega)
    go_enter Try.func6, Try.ntmps6
    go_wp2_with fail
    refine (awake_calls _).mono ?_
    rintro e w1 ⟨rfl, hb1⟩
    have hb1' := Aside0.mk hb1
    have hs1 : w.heap.size ≤ w1.heap.size := hb1.size
    clear hb1
    go_wp2_with fail
    refine (awake_calls _).mono ?_
    rintro e w2 ⟨rfl, hb2⟩
    have hb2' : Aside0 (Below w.heap.size w w2) := ⟨hb1'.out.trans (hb2.mono hs1)⟩
    clear hb2
    go_wp2
    go_ret
    exact ⟨rfl, hb2'.out⟩
end Go.Proofs.Ytjghlomkimoeoaa.Lnk
