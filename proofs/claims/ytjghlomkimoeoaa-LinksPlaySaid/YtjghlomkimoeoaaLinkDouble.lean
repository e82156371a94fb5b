/- Double, walked. -/
import Derived.Test.YtjghlomkimoeoaaLinkAwake
namespace Go.Proofs.Ytjghlomkimoeoaa.Lnk
open Go.RowKit Go.Proofs.YtjghlomkimoeoaaW.PrintWords Go.Proofs.YtjghlomkimoeoaaW.PrintLast Go.Proofs.YtjghlomkimoeoaaW.PrintMore Go.Proofs.Ytjghlomkimoeoaa.PLinksPlay
open Amap Stp
set_option linter.unusedVariables false
set_option linter.unusedSimpArgs false
def double (S : LSt) (k : Key) (i : Int) : LSt × Int := match peek S k i with
  | none => (S, 5)
  | some x => send S k x
set_option maxHeartbeats 1000000 in
set_option maxRecDepth 100000 in
theorem Double_none (S : LSt) (a c i : Int) (hk : domK (a, c)) (hx : peek S (a, c) i = none) (ok : Nat → Prop) (p : Nat) (w : World) (h : IsLink ok w p S) :
    Calls Try.prog 30 #[.pointer (some ⟨p, 0, none⟩), .int .i64 a, .int .i64 c, .int .i64 i] w fun e w' => e = .returned (.int .i64 5) ∧ w = w' := by
  have hp := Aside0.mk (Peek_none S a c i hk hx ok p w h)
  clear hx h
  go_enter Try.func30, Try.ntmps30
  go_wp2_with (first
    | (go_at_call 20; (with_reducible refine hp.out.mono ?_); rintro e w1 ⟨rfl, rfl⟩)
    | fail)
  go_ret
  exact ⟨rfl, rfl⟩
set_option maxHeartbeats 1000000 in
set_option maxRecDepth 100000 in
theorem Double_some (S : LSt) (a c i : Int) (hk : domK (a, c)) (x : List Int) (hx : peek S (a, c) i = some x) (hs : Small S) (ok : Nat → Prop) (p : Nat) (w : World) (hok : ∀ k, w.heap.size ≤ k → ok k) (h : IsLink ok w p S) :
    Calls Try.prog 30 #[.pointer (some ⟨p, 0, none⟩), .int .i64 a, .int .i64 c, .int .i64 i] w fun e w' => e = .returned (.int .i64 (send S (a, c) x).2) ∧ IsLink ok w' p (send S (a, c) x).1 ∧ Fz ok w w' := by
  have hp := Aside0.mk (Peek_some S a c i hk x hx hs ok p w h)
  have h' := Aside0.mk h
  have hk' := Aside0.mk hk
  have hx1 : x.length ≤ 1000000 := (hs.line (a, c)).2 x (List.mem_of_getElem? (peek_some hx).2.2)
  clear hx h hs hk
  go_enter Try.func30, Try.ntmps30
  go_wp2_with (first
    | (go_at_call 20; (with_reducible refine hp.out.mono ?_); rintro e w1 ⟨A2, c2, rfl, hR, hb⟩)
    | (go_at_call 19
       (have hcc : x.length ≤ c2 := by obtain ⟨A3, c3, e3, hl3, _⟩ := Kd.R_reads hR; cases e3; exact hl3)
       (have hC : Kd.C (Kd.int .u8) w1 A2 x.length x := by obtain ⟨A3, c3, e3, _, hC3⟩ := Kd.R_reads hR; cases e3; exact hC3)
       (with_reducible refine (Send_calls S a c hk'.out A2 c2 x ok p _ (fun k hk => hok k (Nat.le_trans hb.size hk)) (h'.out.below hb) hC hcc hx1).mono ?_)
       rintro e w3 ⟨rfl, hL3, hf3⟩)
    | fail)
  go_ret
  exact ⟨rfl, hL3, (Fz.of_below hb _).trans hf3⟩
theorem Double_calls (S : LSt) (a c i : Int) (hk : domK (a, c)) (hs : Small S) (ok : Nat → Prop) (p : Nat) (w : World) (hok : ∀ k, w.heap.size ≤ k → ok k) (h : IsLink ok w p S) :
    Calls Try.prog 30 #[.pointer (some ⟨p, 0, none⟩), .int .i64 a, .int .i64 c, .int .i64 i] w fun e w' => e = .returned (.int .i64 (double S (a, c) i).2) ∧ IsLink ok w' p (double S (a, c) i).1 ∧ Fz ok w w' := by
  unfold double
  cases hx : peek S (a, c) i with
  | none =>
    refine (Double_none S a c i hk hx ok p w h).mono ?_
    rintro e w' ⟨rfl, rfl⟩
    exact ⟨rfl, h, Fz.refl _ _⟩
  | some x => exact Double_some S a c i hk x hx hs ok p w hok h
end Go.Proofs.Ytjghlomkimoeoaa.Lnk
