/- The value of an expression: every kind; and Eval. -/
import Derived.Test.YtdhlbhkpleoicaaDoorExValue
namespace Go.Proofs.YtdhlbhkpleoicaaDoor.Exp
open Go.RowKit Go.Proofs.YtdhlbhkpleoicaaDoorW.PrintWords Go.Proofs.YtdhlbhkpleoicaaDoorW.PrintLast Go.Proofs.YtdhlbhkpleoicaaDoorW.PrintMore Go.Proofs.YtdhlbhkpleoicaaDoor.PExprEvals
open Frm
set_option linter.unusedVariables false
set_option linter.unusedSimpArgs false
theorem ta_bin (v : Value) (W : World) : (Instr.typeAssert (.iface 50 v) 33 50 false).run Tryd.prog W = .ok v W := by kernel_rfl
attribute [local go_sem] ta_bin ta_nil_35 ta_35_35 ta_54_35 ta_33_35 ta_47_35 ta_53_35 ta_nil_54 ta_35_54 ta_54_54 ta_33_54 ta_47_54 ta_53_54 ta_nil_33 ta_35_33 ta_54_33 ta_33_33 ta_47_33 ta_53_33 ta_nil_47 ta_35_47 ta_54_47 ta_33_47 ta_47_47 ta_53_47 ta_nil_53 ta_35_53 ta_54_53 ta_33_53 ta_47_53 ta_53_53
set_option maxHeartbeats 4000000 in
set_option maxRecDepth 100000 in
theorem value_calls (w0 : World) (g : Nat) (vs : List S46) (hvl : vs.length ≤ 140737488351232) : ∀ (d : Nat) (x : Ex), dep x < d → full x = true → ∀ (W0 w : World), Ev w0 g vs 0 W0 w →
    Calls Tryd.prog 20 #[.pointer (some ⟨g, 0, none⟩), enc x] w fun e w' => e = .returned (.int .i64 (ev vs x).1) ∧ Ev w0 g vs (ev vs x).2 W0 w' := by
  intro d
  induction d with
  | zero => intro x hd; omega
  | succ d ih =>
    intro x hd hf W0 w h
    have h' := Aside0.mk h
    have hB : ∀ w', Below w.heap.size w w' → Ev w0 g vs 0 W0 w' := fun w' hb => h.step hb
    have hB' := Aside0.mk hB
    clear h hB
    cases x with
    | none => cases hf
    | lit n =>
      unfold enc ev
      clear ih
      go_enter Tryd.func20, Tryd.ntmps20
      go_wp2
      go_ret
      exact ⟨rfl, hB'.out _ (by repeat (first | exact Below.refl _ _ | refine below_alloc ?_ _))⟩
    | ref s =>
      have hc := Aside0.mk (fun w h => load_calls w0 w g vs s hvl W0 h)
      unfold enc ev
      obtain ⟨⟨rn, re⟩, hr⟩ : ∃ p, look vs s = p := ⟨_, rfl⟩
      rw [hr] at hc ⊢
      clear ih hr
      go_enter Tryd.func20, Tryd.ntmps20
      go_wp2_with (first
        | (go_at_call 32; (with_reducible refine (hc.out _ (hB'.out _ (by repeat (first | exact Below.refl _ _ | refine below_alloc ?_ _)))).mono ?_); rintro e w1 ⟨rfl, hE1⟩; have hE1' := Aside0.mk hE1; clear hE1)
        | fail)
      go_ret
      exact ⟨rfl, hE1'.out⟩
    | not x =>
      have hc := Aside0.mk (fun w h => ih x (by simp only [dep] at hd; omega) (by simpa only [full] using hf) W0 w h)
      unfold enc ev
      obtain ⟨⟨rn, re⟩, hr⟩ : ∃ p, ev vs x = p := ⟨_, rfl⟩
      rw [hr] at hc ⊢
      obtain ⟨v, hv⟩ : ∃ v, enc x = v := ⟨_, rfl⟩
      have hv1 : v = .nilIface ∨ ∃ t u, v = .iface t u := hv ▸ enc_form x
      rw [hv] at hc ⊢
      clear ih hr hv
      rcases hv1 with rfl | ⟨t, u, rfl⟩
      all_goals
        go_enter Tryd.func20, Tryd.ntmps20
        go_wp2_with (first
          | (go_at_call 20; (with_reducible refine (hc.out _ (hB'.out _ (by repeat (first | exact Below.refl _ _ | refine below_alloc ?_ _)))).mono ?_); rintro e w1 ⟨rfl, hE1⟩; have hE1' := Aside0.mk hE1; clear hE1)
          | (go_at_call 33; (with_reducible refine (truth_calls _ _).mono ?_); rintro e w3 ⟨rfl, ⟨m3, hm3⟩⟩; have hb3 := Aside0.mk hm3; clear hm3)
          | fail)
        go_ret
        exact ⟨rfl, hE1'.out.step (by rw [hb3.out]; exact pw_below_drewN (Below.refl _ _) _)⟩
    | neg x =>
      have hc := Aside0.mk (fun w h => ih x (by simp only [dep] at hd; omega) (by simpa only [full] using hf) W0 w h)
      unfold enc ev
      obtain ⟨⟨rn, re⟩, hr⟩ : ∃ p, ev vs x = p := ⟨_, rfl⟩
      rw [hr] at hc ⊢
      obtain ⟨v, hv⟩ : ∃ v, enc x = v := ⟨_, rfl⟩
      have hv1 : v = .nilIface ∨ ∃ t u, v = .iface t u := hv ▸ enc_form x
      rw [hv] at hc ⊢
      clear ih hr hv
      rcases hv1 with rfl | ⟨t, u, rfl⟩
      all_goals
        go_enter Tryd.func20, Tryd.ntmps20
        go_wp2_with (first
          | (go_at_call 20; (with_reducible refine (hc.out _ (hB'.out _ (by repeat (first | exact Below.refl _ _ | refine below_alloc ?_ _)))).mono ?_); rintro e w1 ⟨rfl, hE1⟩; have hE1' := Aside0.mk hE1; clear hE1)
          | fail)
        go_ret
        exact ⟨by first | rfl | (simp; done) | trace_state, hE1'.out⟩
    | bin op l r =>
      have h1 : full l = true ∧ full r = true := by simpa only [full, Bool.and_eq_true] using hf
      have hc := Aside0.mk (fun w h => bin_calls vs op l r w0 g w W0 h (fun w2 h2 => (ih l (by simp only [dep] at hd; omega) h1.1 w2 w2 ⟨h2.is, h2.below, KeepBut.refl _ _ _⟩)) (fun w2 h2 => (ih r (by simp only [dep] at hd; omega) h1.2 w2 w2 ⟨h2.is, h2.below, KeepBut.refl _ _ _⟩)))
      obtain ⟨⟨rn, re⟩, hr⟩ : ∃ p, ev vs (.bin op l r) = p := ⟨_, rfl⟩
      rw [hr] at hc ⊢
      unfold enc
      obtain ⟨vl, hvl⟩ : ∃ v, enc l = v := ⟨_, rfl⟩
      obtain ⟨vr, hvr⟩ : ∃ v, enc r = v := ⟨_, rfl⟩
      have hf1 : vl = .nilIface ∨ ∃ t u, vl = .iface t u := hvl ▸ enc_form l
      have hf2 : vr = .nilIface ∨ ∃ t u, vr = .iface t u := hvr ▸ enc_form r
      rw [hvl, hvr] at hc ⊢
      clear ih hr hvl hvr
      rcases hf1 with rfl | ⟨t1, u1, rfl⟩ <;> rcases hf2 with rfl | ⟨t2, u2, rfl⟩
      all_goals
        go_enter Tryd.func20, Tryd.ntmps20
        go_wp2_with (first
          | (go_at_call 34; (with_reducible refine (hc.out _ (hB'.out _ (by repeat (first | exact Below.refl _ _ | refine below_alloc ?_ _)))).mono ?_); rintro e w1 ⟨rfl, hE1⟩; have hE1' := Aside0.mk hE1; clear hE1)
          | fail)
        go_ret
        exact ⟨rfl, hE1'.out⟩
/-- What Eval answers. -/
def evl (vs : List S46) (x : Ex) : Int × Int := if fmd x = true then (if (ev vs x).2 ≠ 0 then (0, (ev vs x).2) else ((ev vs x).1, 0)) else (0, 1)
theorem ev_new (w0 W : World) (A : Option Addr) (c : Nat) (vs : List S46) (hB : Below w0.heap.size w0 W) (hC : Kd.C k46 w0 A vs.length vs) : IsS54 w0 (W.alloc (.cells #[.slice A vs.length c, .int .i64 0] 54)) W.heap.size vs 0 := IsS54.new w0 W A c vs 0 hB hC
set_option maxHeartbeats 2000000 in
set_option maxRecDepth 100000 in
theorem Eval_calls (x : Ex) (vs : List S46) (hvl : vs.length ≤ 140737488351232) (A : Option Addr) (c : Nat) (w : World) (hC : Kd.C k46 w A vs.length vs) (hc : vs.length ≤ c) :
    Calls Tryd.prog 9 #[enc x, .slice A vs.length c] w fun e w' => e = .returned (.tuple #[.int .i64 (evl vs x).1, .int .i64 (evl vs x).2]) ∧ Below w.heap.size w w' := by
  have hF := Aside0.mk (fun w => Formed_calls x w)
  have hC' := Aside0.mk hC
  have hfull : fmd x = true → full x = true := fun h => by
    unfold fmd at h
    rw [Bool.and_eq_true] at h
    exact full_of_snd x _ h.2
  have hV := Aside0.mk (fun (W : World) g hf (W0 w2 : World) h => value_calls w g vs hvl (dep x + 1) x (by omega) hf W0 w2 h)
  unfold evl
  obtain ⟨⟨rn, re⟩, hr⟩ : ∃ p, ev vs x = p := ⟨_, rfl⟩
  rw [hr] at hV ⊢
  obtain ⟨v, hv⟩ : ∃ v, enc x = v := ⟨_, rfl⟩
  have hv1 : v = .nilIface ∨ ∃ t u, v = .iface t u := hv ▸ enc_form x
  rw [hv] at hF hV ⊢
  obtain ⟨fb, hfb⟩ : ∃ b, fmd x = b := ⟨_, rfl⟩
  rw [hfb] at hF hfull ⊢
  clear hC hr hv hfb
  cases fb with
  | false =>
    rw [if_neg (by decide)]
    clear hfull hV
    rcases hv1 with rfl | ⟨t, u, rfl⟩
    all_goals
      go_enter Tryd.func9, Tryd.ntmps9
      go_wp2_with (first
        | (go_at_call 13; (with_reducible refine (hF.out _).mono ?_); rintro e w1 ⟨rfl, hb1⟩; have hb1' := Aside0.mk hb1; clear hb1)
        | fail)
      refine bodyPost_ret (v := .tuple #[.int .i64 0, .int .i64 1]) (by simp [results, Tryd.results9, go_sem]) rfl ⟨rfl, hb1'.out⟩
  | true =>
    rw [if_pos rfl]
    have hfull' := Aside0.mk (hfull rfl)
    clear hfull
    by_cases hre : re = 0
    · subst hre
      rw [if_neg (by simp)]
      rcases hv1 with rfl | ⟨t, u, rfl⟩
      all_goals
        go_enter Tryd.func9, Tryd.ntmps9
        go_wp2_with (first
          | (go_at_call 13; (with_reducible refine (hF.out _).mono ?_); rintro e w1 ⟨rfl, hb1⟩; have hb1' := Aside0.mk hb1; clear hb1)
          | (go_at_call 20; (with_reducible refine (hV.out w1 _ hfull'.out _ _ (Ev.refl (IsS54.new w w1 A c vs 0 hb1'.out hC'.out) (below_alloc hb1'.out _))).mono ?_); rintro e w2 ⟨rfl, hE2⟩; obtain ⟨A2, c2, _, a0, a1, f1, _, hgl⟩ := hE2.cells; have hE2' := Aside0.mk hE2; clear hE2)
          | fail)
        refine bodyPost_ret (v := .tuple #[.int .i64 rn, .int .i64 0]) (by simp [results, Tryd.results9, go_sem]) rfl ⟨rfl, hE2'.out.below⟩
    · have dr : (re != 0) = true := by simpa using hre
      rw [if_pos hre]
      clear hre
      rcases hv1 with rfl | ⟨t, u, rfl⟩
      all_goals
        go_enter Tryd.func9, Tryd.ntmps9
        go_upto_region 6 with (first
          | (go_at_call 13; (with_reducible refine (hF.out _).mono ?_); rintro e w1 ⟨rfl, hb1⟩; have hb1' := Aside0.mk hb1; clear hb1)
          | (go_at_call 20; (with_reducible refine (hV.out w1 _ hfull'.out _ _ (Ev.refl (IsS54.new w w1 A c vs 0 hb1'.out hC'.out) (below_alloc hb1'.out _))).mono ?_); rintro e w2 ⟨rfl, hE2⟩; obtain ⟨A2, c2, _, a0, a1, f1, _, hgl⟩ := hE2.cells; have hE2' := Aside0.mk hE2; clear hE2)
          | fail)
        go_quiet (fail)
        go_wp2
        refine bodyPost_ret (v := .tuple #[.int .i64 0, .int .i64 re]) (by simp [results, Tryd.results9, go_sem]) rfl ⟨rfl, pw_below_drewN hE2'.out.below _⟩
end Go.Proofs.YtdhlbhkpleoicaaDoor.Exp
