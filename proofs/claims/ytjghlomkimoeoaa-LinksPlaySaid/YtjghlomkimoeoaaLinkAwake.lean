/- Send, joined; awake; few; what nil links do. -/
import Derived.Test.YtjghlomkimoeoaaLinkSend2
import Derived.Lib.SlBytesConst
namespace Go.Proofs.Ytjghlomkimoeoaa.Lnk
open Go.RowKit Go.Proofs.YtjghlomkimoeoaaW.PrintWords Go.Proofs.YtjghlomkimoeoaaW.PrintLast Go.Proofs.YtjghlomkimoeoaaW.PrintMore Go.Proofs.Ytjghlomkimoeoaa.PLinksPlay
open Amap Stp
set_option linter.unusedVariables false
set_option linter.unusedSimpArgs false
theorem Send_calls (S : LSt) (a c : Int) (hk : domK (a, c)) (A : Option Addr) (cp : Nat) (x : List Int) (ok : Nat → Prop) (p : Nat) (w : World) (hok : ∀ k, w.heap.size ≤ k → ok k) (h : IsLink ok w p S)
    (hC : Kd.C (Kd.int .u8) w A x.length x) (hcp : x.length ≤ cp) (hx : x.length ≤ 1000000) :
    Calls Try.prog 19 #[.pointer (some ⟨p, 0, none⟩), .int .i64 a, .int .i64 c, .slice A x.length cp] w fun e w' => e = .returned (.int .i64 (send S (a, c) x).2) ∧ IsLink ok w' p (send S (a, c) x).1 ∧ Fz ok w w' := by
  unfold send
  by_cases hth : there S (a, c) = false
  · rw [if_pos hth]
    refine (Send_no S a c _ ok p w h hth).mono ?_
    rintro e w' ⟨rfl, rfl⟩
    exact ⟨rfl, h, Fz.refl _ _⟩
  · rw [if_neg hth]
    have hth' : there S (a, c) = true := by simpa using hth
    by_cases hf : 100 ≤ tot S.L
    · rw [if_pos hf]
      refine (Send_full S a c _ ok p w h hth' hf).mono ?_
      rintro e w' ⟨rfl, rfl⟩
      exact ⟨rfl, h, Fz.refl _ _⟩
    · rw [if_neg hf]
      exact Send_yes S a c hk A cp x ok p w hok h hth' (by omega) hC hcp hx
theorem one_byte {W : World} {g : Nat} {n : Int} {z : Nat × Nat} (h : W.heap[g]? = some (.cells #[.int .u8 n] 5 z)) : Kd.C (Kd.int .u8) W (some ⟨g, 0, none⟩) 1 [n] := by
  refine ⟨rfl, by decide, fun _ => ⟨_, rfl, fun j p hj => ?_⟩⟩
  cases j with
  | zero =>
    simp at hj
    subst hj
    refine ⟨[.int .u8 n], rfl, rfl, fun i u hu => ?_⟩
    cases i with
    | zero =>
      simp at hu
      subst hu
      simp [World.cell?, h, Addr.add]
    | succ i => simp at hu
  | succ j => simp at hj
theorem blk_new_mark (w : World) (C : Array Value) (t : Nat) (z : Nat × Nat) : (w.alloc (.cells C t z)).heap[w.heap.size]? = some (.cells C t z) := blk_new _ _
theorem dom_small {a c : Int} (ha : -1000 ≤ a) (ha' : a ≤ 1000) (hc : -1000 ≤ c) (hc' : c ≤ 1000) : domK (a, c) := by
  constructor <;> simp [Lit.wf, IntKind.min, IntKind.max, IntKind.signed, IntKind.bits] <;> omega
set_option maxHeartbeats 2000000 in
set_option maxRecDepth 100000 in
theorem awake_calls (w : World) : Calls Try.prog 17 #[] w fun e w' => e = .returned (.bool true) ∧ Below w.heap.size w w' := by
  have kc := fun (w : World) (C : Array Value) (n c : Nat) => Lib.run_convert_bytes_const (P := Try.prog) w 25 5 C n c Try.underlying25 Try.underlying5
  go_enter Try.func17, Try.ntmps17
  go_wp2_with fail
  refine (New_calls 2 w (up w.heap.size) (fun k hk => hk)).mono ?_
  rintro e w1 ⟨rfl, hL1, hb1⟩
  have hL1' := Aside0.mk hL1
  have hb1' := Aside0.mk hb1
  clear hL1 hb1
  go_wp2_with (first
    | (go_at_call 19
       (have hL2 : IsLink (up w.heap.size) (w1.alloc (.cells #[.int .u8 120] 5 (1, 2))) (w.heap.size + 1) ⟨clamp 2, []⟩ := hL1'.out.below (below_alloc (Below.refl _ _) _))
       (refine (Send_calls ⟨clamp 2, []⟩ 0 1 (dom_small (by decide) (by decide) (by decide) (by decide)) _ _ [120] (up w.heap.size) _ _ (fun k hk => by have := hb1'.out.size; simp at hk; unfold up; omega) hL2 (one_byte (blk_new_mark _ _ _ _)) (by simp) (by simp)).mono ?_)
       rintro e w3 ⟨rfl, hL3, hf3⟩)
    | (go_at_call 23; (refine (Total_calls _ (up w.heap.size) _ _ hL3).mono ?_); rintro e w4 ⟨rfl, rfl⟩)
    | fail)
  go_ret
  refine ⟨?_, (below_alloc hb1'.out _).trans (hf3.up (by have := hb1'.out.size; simp; omega))⟩
  show Ending.returned (.bool (((tot (send ⟨clamp 2, []⟩ (0, 1) [120]).1.L : Nat) : Int) == 1)) = _
  rw [show tot (send ⟨clamp 2, []⟩ (0, 1) [120]).1.L = 1 from by decide]
  rfl
theorem few_one (x : S60) : ∃ b, ∀ (A : Option Addr) (c : Nat) (w : World), Kd.C k60 w A 1 [x] → 1 ≤ c → Calls Try.prog 31 #[.slice A 1 c] w fun e w' => e = .returned (.bool b) ∧ Drawn0 w w' := by
  have hf : ∃ b, tumbrellaw17_Few.f 2 [x] = some b := by
    simp only [tumbrellaw17_Few.f, tumbrellaw17_Few.l0]
    rw [show wrap64 ((0 : Int) + 1) = 1 from by unfold wrap64; omega]
    simp only [List.length_cons, List.length_nil]
    rw [if_pos (by omega), if_pos (by omega), if_pos (by omega), if_neg (by omega)]
    by_cases h : wrap64 (0 + ↑(rd_T60 [x] 0).f4.length) > 20000
    · exact ⟨false, by rw [if_pos h]⟩
    · exact ⟨true, by rw [if_neg h, if_neg (by omega)]⟩
  obtain ⟨b, hb⟩ := hf
  exact ⟨b, fun A c w hC hc => tumbrellaw17_Few.calls 2 A c [x] b w hC hc hb⟩
set_option maxHeartbeats 1000000 in
set_option maxRecDepth 100000 in
theorem Count_nil (a c : Int) (w : World) : Calls Try.prog 22 #[.pointer none, .int .i64 a, .int .i64 c] w fun e w' => e = .returned (.int .i64 0) ∧ w' = w := by
  go_enter Try.func22, Try.ntmps22
  go_wp2
  go_ret
  exact ⟨rfl, rfl⟩
set_option maxHeartbeats 1000000 in
set_option maxRecDepth 100000 in
theorem Total_nil (w : World) : Calls Try.prog 23 #[.pointer none] w fun e w' => e = .returned (.int .i64 0) ∧ w' = w := by
  go_enter Try.func23, Try.ntmps23
  go_wp2
  go_ret
  exact ⟨rfl, rfl⟩
set_option maxHeartbeats 1000000 in
set_option maxRecDepth 100000 in
theorem Send_nil (a c : Int) (v : Value) (w : World) : Calls Try.prog 19 #[.pointer none, .int .i64 a, .int .i64 c, v] w fun e w' => e = .returned (.int .i64 1) ∧ w' = w := by
  go_enter Try.func19, Try.ntmps19
  go_wp2
  go_ret
  exact ⟨rfl, rfl⟩
set_option maxHeartbeats 1000000 in
set_option maxRecDepth 100000 in
theorem Double_nil (a c i : Int) (w : World) : Calls Try.prog 30 #[.pointer none, .int .i64 a, .int .i64 c, .int .i64 i] w fun e w' => e = .returned (.int .i64 1) ∧ w' = w := by
  go_enter Try.func30, Try.ntmps30
  go_wp2
  go_ret
  exact ⟨rfl, rfl⟩
set_option maxHeartbeats 1000000 in
set_option maxRecDepth 100000 in
theorem Turn_nil (a c : Int) (w : World) : Calls Try.prog 37 #[.pointer none, .int .i64 a, .int .i64 c] w fun e w' => e = .returned (.bool false) ∧ w' = w := by
  go_enter Try.func37, Try.ntmps37
  go_wp2_with (first | (go_at_call 22; (with_reducible refine (Count_nil _ _ _).mono ?_); rintro e w1 ⟨rfl, rfl⟩) | fail)
  go_ret
  exact ⟨rfl, rfl⟩
set_option maxHeartbeats 1000000 in
set_option maxRecDepth 100000 in
theorem Peek_nil (a c i : Int) (w : World) : Calls Try.prog 20 #[.pointer none, .int .i64 a, .int .i64 c, .int .i64 i] w fun e w' => e = .returned (.tuple #[.slice none 0 0, .bool false]) ∧ w' = w := by
  by_cases h0 : i < 0
  · have d0 : decide (i < 0) = true := decide_eq_true h0
    go_enter Try.func20, Try.ntmps20
    go_wp2
    go_ret2
    exact ⟨rfl, rfl⟩
  · have d0 : decide (i < 0) = false := decide_eq_false h0
    have d1 : decide (0 ≤ i) = true := decide_eq_true (by omega)
    go_enter Try.func20, Try.ntmps20
    go_wp2_with (first | (go_at_call 22; (with_reducible refine (Count_nil _ _ _).mono ?_); rintro e w1 ⟨rfl, rfl⟩) | fail)
    go_ret2
    exact ⟨rfl, rfl⟩
set_option maxHeartbeats 1000000 in
set_option maxRecDepth 100000 in
theorem Take_nil (a c i : Int) (w : World) : Calls Try.prog 21 #[.pointer none, .int .i64 a, .int .i64 c, .int .i64 i] w fun e w' => e = .returned (.tuple #[.slice none 0 0, .bool false]) ∧ w' = w := by
  go_enter Try.func21, Try.ntmps21
  go_wp2_with (first | (go_at_call 20; (with_reducible refine (Peek_nil _ _ _ _).mono ?_); rintro e w1 ⟨rfl, rfl⟩) | fail)
  go_ret2
  exact ⟨rfl, rfl⟩
end Go.Proofs.Ytjghlomkimoeoaa.Lnk
