/- LedgerOnce, walked. -/
import Derived.Test.YtdglbiafpofeeaaLedFew
import Derived.StillTailTactics
import Derived.Deep.CutBlock
import Derived.Deep.DeepCutAuto
import Derived.Deep.QuietTactic
import Derived.BigQuiet
import Derived.Outline
namespace Go.Proofs.Ytdglbiafpofeeaa.Led
open Go.RowKit Go.Proofs.YtdglbiafpofeeaaW.PrintWords Go.Proofs.YtdglbiafpofeeaaW.PrintLast Go.Proofs.YtdglbiafpofeeaaW.PrintMore Go.Proofs.Ytdglbiafpofeeaa.PLedgerPlays
open Amap
set_option linter.unusedVariables false
set_option linter.unusedSimpArgs false

theorem once_at : ∀ (l A : List Eff), Once A l → ∀ (i : Nat) (e : Eff), l[i]? = some e → ¬ effs (A ++ l.take i) e.undo (e.inst, e.turn) ∧ (e.undo = true → effs (A ++ l.take i) false (e.inst, e.turn))
  | [], A, _, i, e, h => by simp at h
  | x :: r, A, h, i, e, he => by
    obtain ⟨a, b, c⟩ := h
    cases i with
    | zero =>
      simp only [List.getElem?_cons_zero, Option.some.injEq] at he
      subst he
      simpa using ⟨a, b⟩
    | succ i =>
      simp only [List.getElem?_cons_succ] at he
      have := once_at r _ c i e he
      simpa using this
theorem bool_ne {a b : Bool} (h : a ≠ b) : a = !b := by cases a <;> cases b <;> simp_all
def eff0 : Eff := ⟨false, 0, 0, ⟨#[]⟩⟩
theorem rd_eff {E : List Eff} {i : Nat} (h : i < E.length) : rd_T36 (E.map effS) (i : Int) = effS (E.getD i eff0) := by
  simp [rd_T36, List.getD_eq_getElem?_getD, h]
/-- What the inner loop has found so far. -/
def doneAt (E : List Eff) (i k : Nat) : Bool := !(E.getD i eff0).undo || (List.range k).any fun j => decide ((E.getD j eff0).inst = (E.getD i eff0).inst) && decide ((E.getD j eff0).turn = (E.getD i eff0).turn) && !(E.getD j eff0).undo
theorem once_ne {E : List Eff} (h : Once [] E) {i k : Nat} (hi : i < E.length) (hk : k < i) (h1 : (E.getD k eff0).inst = (E.getD i eff0).inst) (h2 : (E.getD k eff0).turn = (E.getD i eff0).turn) : (E.getD k eff0).undo ≠ (E.getD i eff0).undo := by
  intro h3
  have hge : ∀ j, j < E.length → E[j]? = some (E.getD j eff0) := fun j hj => by rw [List.getD_eq_getElem?_getD, List.getElem?_eq_getElem hj]; rfl
  obtain ⟨a, _⟩ := once_at E [] h i _ (hge i hi)
  refine a ⟨E.getD k eff0, ?_, h3, h1, h2⟩
  rw [List.nil_append]
  exact List.mem_of_getElem? (i := k) (by rw [List.getElem?_take_of_lt hk]; exact hge k (by omega))
theorem once_done {E : List Eff} (h : Once [] E) {i : Nat} (hi : i < E.length) : doneAt E i i = true := by
  have hge : ∀ j, j < E.length → E[j]? = some (E.getD j eff0) := fun j hj => by rw [List.getD_eq_getElem?_getD, List.getElem?_eq_getElem hj]; rfl
  obtain ⟨_, b⟩ := once_at E [] h i _ (hge i hi)
  unfold doneAt
  cases hu : (E.getD i eff0).undo with
  | false => rfl
  | true =>
    obtain ⟨e, he, h1, h2, h3⟩ := b hu
    rw [List.nil_append] at he
    obtain ⟨j, hj⟩ := List.getElem?_of_mem he
    have hji : j < i := by
      rcases Nat.lt_or_ge j i with h | h
      · exact h
      · rw [List.getElem?_take_eq_none h] at hj; cases hj
    rw [List.getElem?_take_of_lt hji] at hj
    have hje : E.getD j eff0 = e := by rw [List.getD_eq_getElem?_getD, hj]; rfl
    simp only [Bool.not_true, Bool.false_or, List.any_eq_true, List.mem_range]
    exact ⟨j, hji, by rw [hje]; simp [h1, h2, h3]⟩
theorem doneAt_succ (E : List Eff) (i k : Nat) : doneAt E i (k + 1) = (doneAt E i k || (decide ((E.getD k eff0).inst = (E.getD i eff0).inst) && decide ((E.getD k eff0).turn = (E.getD i eff0).turn) && !(E.getD k eff0).undo)) := by
  unfold doneAt
  rw [List.range_succ, List.any_append]
  simp [Bool.or_assoc]
set_option maxHeartbeats 1000000 in
set_option maxRecDepth 100000 in
theorem once_calls (A : Option Addr) (c : Nat) (l : List S32) (w : World) (hl : l.length ≤ 140737488351232) (hC : Kd.C k32 w A l.length l) (hc : l.length ≤ c) :
    Calls Try.prog 3 #[.slice A l.length c] w fun e w' => e = .returned (.bool true) ∧ Below w.heap.size w w' := by
  obtain ⟨b, hb400, hfew⟩ := few_calls l (by omega)
  have hfew' := Aside0.mk hfew
  have hC' := Aside0.mk hC
  have hc' := Aside0.mk hc
  clear hfew hC hc
  cases b with
  | false =>
    go_enter Try.func3, Try.ntmps3
    go_wp2_with fail
    refine (awake_calls _).mono ?_
    rintro e w1 ⟨rfl, hb1⟩
    go_wp2_with fail
    refine (hfew'.out A c _ (Kd.C_below hC'.out hb1) hc'.out).mono ?_
    rintro e w2 ⟨rfl, ⟨m, rfl⟩⟩
    go_wp2_with fail
    refine (awake_calls _).mono ?_
    rintro e w3 ⟨rfl, hb3⟩
    go_wp2
    go_ret
    exact ⟨rfl, below_step (pw_below_drewN hb1 m) hb3⟩
  | true =>
    have h400 := hb400 rfl
    have h400' := Aside0.mk h400
    clear hb400
    go_enter Try.func3, Try.ntmps3
    go_wp2_with fail
    refine (awake_calls _).mono ?_
    rintro e w1 ⟨rfl, hb1⟩
    go_wp2_with fail
    refine (hfew'.out A c _ (Kd.C_below hC'.out hb1) hc'.out).mono ?_
    rintro e w2 ⟨rfl, ⟨m, rfl⟩⟩
    go_wp2_with fail
    refine (New_calls _).mono ?_
    rintro e w3 ⟨rfl, rfl⟩
    have hsz := hb1.size
    have hrun0 : Aside0 (Run w.heap.size ((w1.drewN m).alloc (.cells #[.map none, .slice none 0 0] 44)) w1.heap.size st0 0) := ⟨⟨New_is w.heap.size (w1.drewN m) hb1.size, by decide, by decide⟩⟩
    have hbel0 : Aside0 (Below w.heap.size w ((w1.drewN m).alloc (.cells #[.map none, .slice none 0 0] 44))) := ⟨below_alloc (pw_below_drewN hb1 m) _⟩
    go_wp2_with fail
    go_loopg [20] (l.length + 1) (fun kq v20 w' => ∃ (i : Nat) (S : St), v20 = .int .i64 (i : Int) ∧ Aside0 (kq + i = l.length + 1) ∧ Aside0 (i ≤ l.length) ∧ Aside0 (Good S) ∧ Aside0 (Run w.heap.size w' w1.heap.size S i) ∧ Aside0 (Below w.heap.size w w'))
    case atStart => exact ⟨0, st0, rfl, ⟨by omega⟩, ⟨by omega⟩, ⟨good0⟩, hrun0, hbel0⟩
    case round =>
      obtain ⟨i, S, rfl, hk, hi, hg, hR, hB⟩ := hrel
      by_cases hlt : i < l.length
      · have hd : decide ((i : Int) < (l.length : Int)) = true := decide_eq_true (by omega)
        have hd' : decide (i < l.length) = true := decide_eq_true hlt
        cases gk with
        | zero => exact absurd hk.out (by omega)
        | succ k1 =>
          have hi400 : (i : Int) ≤ 400 := by omega
          have hlt' := Aside0.mk hlt
          have p1 : 0 ≤ (i : Int) := by omega
          have q1 : (i : Int) < (l.length : Int) := by omega
          obtain ⟨ad, e1, hx⟩ := at_T32 (Kd.C_below hC'.out hB.out) (i : Int) p1 q1
          cases e1
          rw [show ((i : Int)).toNat = i from by simp] at hx
          obtain ⟨⟨⟨xk, xi, xt, xs, xa, xo⟩, acc⟩, hxx⟩ : ∃ x, rd_T32 l (i : Int) = x := ⟨_, rfl⟩
          rw [hxx] at hx
          obtain ⟨x0, x1, x2, x3, x4, x5, x6⟩ := hx
          simp only [] at x0 x1 x2 x3 x4 x5 x6
          obtain ⟨⟨S', ⟨k', i', t', n', a', o'⟩, r⟩, htk⟩ : ∃ r, take S ⟨xk, xi, xt, xs, xa, xo⟩ acc = r := ⟨_, rfl⟩
          have htk' := Aside0.mk htk
          clear hxx htk
          go_upto_region 7 with fail
          go_still_tail 11, (by kernel_rfl)
          change wpList _ _ _ _ _ wr.drew
          go_wp2_with (go_at_call 16; (with_reducible refine (Take_at S xk xi xt xs xa xo acc _ _ _ _ _ _ _ _ htk'.out w.heap.size _ _ (by have := hB.out.size; simp; omega) (hR.out.is.below (below_drew (Below.refl _ _))) hR.out.len (by have := hR.out.effs; omega)).mono ?_); rintro e w4 ⟨rfl, hS4, hf4⟩)
          go_roundg k1
          case measure => have := hk.out; omega
          case rel =>
            have hS' : (take S ⟨xk, xi, xt, xs, xa, xo⟩ acc).1 = S' := by rw [htk'.out]
            refine ⟨i + 1, S', by go_num, ⟨by have := hk.out; omega⟩, ⟨by have := hlt'.out; omega⟩, ⟨?_⟩, ⟨hS4, ?_, ?_⟩, ⟨(hB.out.drew).trans hf4.below⟩⟩
            · rw [← hS']; exact good_take hg.out _ _
            · rw [← hS']; exact take_length _ _ _ hR.out.len
            · rw [← hS']; have := take_effs S ⟨xk, xi, xt, xs, xa, xo⟩ acc; have := hR.out.effs; omega
      · have hd : decide ((i : Int) < (l.length : Int)) = false := decide_eq_false (by omega)
        have hd' : decide (i < l.length) = false := decide_eq_false hlt
        have hE : S.E.length ≤ 400 := by have := hR.out.effs; have := hi.out; omega
        have hE' := Aside0.mk hE
        clear hE
        go_wp2_with fail
        refine (Effects_calls S w.heap.size _ _ hR.out.is (by have := hE'.out; omega)).mono ?_
        rintro e w5 ⟨v, rfl, hR5, hb5⟩
        obtain ⟨A5, c5, rfl, hc5, hC5⟩ := Kd.R_reads hR5
        have hC5' := Aside0.mk hC5
        have hO : Once [] S.E := hg.out.once
        have hO' := Aside0.mk hO
        have hB5 : Aside0 (Below w.heap.size w w5) := ⟨hB.out.trans (hb5.mono hB.out.size)⟩
        have hlE : (S.E.map effS).length = S.E.length := by simp
        rw [hlE]
        rw [hlE] at hC5'
        obtain ⟨E, hEE⟩ : ∃ E, S.E = E := ⟨_, rfl⟩
        rw [hEE] at hC5' hO' hE' ⊢
        have hE400 : E.length ≤ 400 := hE'.out
        clear hO hC5 hc5 hR5 hb5 hlE hEE hR hB hg
        go_wp2_with fail
        go_loopg [40] (E.length + 1) (fun kq v40 w' => ∃ (i n : Nat), v40 = .int .i64 (i : Int) ∧ Aside0 (kq + i = E.length + 1) ∧ Aside0 (i ≤ E.length) ∧ w' = w5.drewN n)
        case atStart => exact ⟨0, 0, rfl, ⟨by omega⟩, ⟨by omega⟩, rfl⟩
        case round =>
          obtain ⟨i, n, rfl, hk, hi, rfl⟩ := hrel
          by_cases hlt : i < E.length
          · have hd : decide ((i : Int) < (E.length : Int)) = true := decide_eq_true (by omega)
            have hd' : decide (i < E.length) = true := decide_eq_true hlt
            cases gk with
            | zero => exact absurd hk.out (by omega)
            | succ k1 =>
              have hlt' := Aside0.mk hlt
              have p1 : 0 ≤ (i : Int) := by omega
              have q1 : (i : Int) < (E.length : Int) := by omega
              obtain ⟨ad, e1, hx⟩ := at_T36 hC5'.out (i : Int) p1 q1
              cases e1
              rw [show ((i : Int)).toNat = i from by simp, rd_eff hlt] at hx
              obtain ⟨⟨iu, ii, it, iname⟩, hii⟩ : ∃ x, E.getD i eff0 = x := ⟨_, rfl⟩
              rw [hii] at hx
              have hii' := Aside0.mk hii
              obtain ⟨x0, x1, x2, x3⟩ := hx
              simp only [effS] at x0 x1 x2 x3
              clear hii
              have hdz := Aside0.mk (show doneAt E i 0 = !iu by unfold doneAt; rw [hii'.out]; simp)
              have hdi := Aside0.mk (once_done hO'.out hlt)
              go_upto_block 4 with fail
              refine wp_world (fun W hW => ?_)
              have hWn : Aside0 (∃ n, W = w5.drewN n) := ⟨⟨_, hW⟩⟩
              clear hW
              go_cut [7] (fun v7 wx => v7 = .bool true ∧ Aside0 (∃ n, wx = w5.drewN n))
              case first =>
                go_wp2_with fail
                go_loopg [50, 7] (i + 1) (fun kq v50 v7 w' => ∃ (k : Nat), v50 = .int .i64 (k : Int) ∧ v7 = .bool (doneAt E i k) ∧ Aside0 (kq + k = i + 1) ∧ Aside0 (k ≤ i) ∧ Aside0 (∃ n, w' = w5.drewN n))
                case atStart => exact ⟨0, rfl, by rw [hdz.out], ⟨by omega⟩, ⟨by omega⟩, hWn⟩
                case round =>
                  obtain ⟨k, rfl, rfl, hkk, hki, ⟨m, rfl⟩⟩ := hrel
                  by_cases hkl : k < i
                  · have hd2 : decide ((k : Int) < (i : Int)) = true := decide_eq_true (by omega)
                    have hd2' : decide (k < i) = true := decide_eq_true hkl
                    cases gk with
                    | zero => exact absurd hkk.out (by omega)
                    | succ k2 =>
                      have hke := Aside0.mk (show k < E.length by omega)
                      have hkl' := Aside0.mk hkl
                      have p2 : 0 ≤ (k : Int) := by omega
                      have q2 : (k : Int) < (E.length : Int) := by omega
                      have hk400 : (k : Int) ≤ 400 := by omega
                      obtain ⟨ad2, e2, hx2⟩ := at_T36 hC5'.out (k : Int) p2 q2
                      cases e2
                      rw [show ((k : Int)).toNat = k from by simp, rd_eff hke.out] at hx2
                      have hsu := Aside0.mk (doneAt_succ E i k)
                      have hne := Aside0.mk (once_ne hO'.out hlt'.out hkl)
                      obtain ⟨⟨ku, ki, kt, kname⟩, hki2⟩ : ∃ x, E.getD k eff0 = x := ⟨_, rfl⟩
                      rw [hki2] at hx2
                      rw [hki2, hii'.out] at hsu hne
                      obtain ⟨y0, y1, y2, y3⟩ := hx2
                      simp only [effS] at y0 y1 y2 y3
                      obtain ⟨dn, hdn⟩ : ∃ b, doneAt E i k = b := ⟨_, rfl⟩
                      rw [hdn] at hsu
                      rw [hdn]
                      clear hdn hki2
                      by_cases h1 : ki = ii
                      · subst h1
                        by_cases h2 : kt = it
                        · subst h2
                          have hu : ku = !iu := bool_ne (hne.out rfl rfl)
                          subst hu
                          cases dn <;>
                          · go_upto_region 17 with fail
                            go_quiet (fail)
                            go_upto_region 18 with fail
                            go_quiet (fail)
                            go_wp2
                            go_roundg k2
                            case measure => have := hkk.out; omega
                            case rel => exact ⟨k + 1, by go_num, by rw [hsu.out]; simp, ⟨by have := hkk.out; omega⟩, ⟨by have := hkl'.out; omega⟩, ⟨_, rfl⟩⟩
                        · have h2' : (kt != it) = true := by simpa using h2
                          go_upto_region 17 with fail
                          go_quiet (fail)
                          go_wp2
                          go_roundg k2
                          case measure => have := hkk.out; omega
                          case rel => exact ⟨k + 1, by go_num, by rw [hsu.out]; simp [h2], ⟨by have := hkk.out; omega⟩, ⟨by have := hkl'.out; omega⟩, ⟨_, rfl⟩⟩
                      · have h1' : (ki != ii) = true := by simpa using h1
                        go_upto_region 17 with fail
                        go_quiet (fail)
                        go_wp2
                        go_roundg k2
                        case measure => have := hkk.out; omega
                        case rel => exact ⟨k + 1, by go_num, by rw [hsu.out]; simp [h1], ⟨by have := hkk.out; omega⟩, ⟨by have := hkl'.out; omega⟩, ⟨_, rfl⟩⟩
                  · have hd2 : decide ((k : Int) < (i : Int)) = false := decide_eq_false (by omega)
                    have hd2' : decide (k < i) = false := decide_eq_false hkl
                    have hke : k = i := by have := hki.out; omega
                    subst hke
                    rw [hdi.out]
                    go_wp2_with fail
                    go_meet
                    exact ⟨rfl, ⟨_, rfl⟩⟩
              case rest =>
                obtain ⟨rfl, ⟨m, rfl⟩⟩ := hcut
                go_wp2
                go_roundg k1
                case measure => have := hk.out; omega
                case rel => exact ⟨i + 1, _, by go_num, ⟨by have := hk.out; omega⟩, ⟨by have := hlt'.out; omega⟩, rfl⟩
          · have hd : decide ((i : Int) < (E.length : Int)) = false := decide_eq_false (by omega)
            have hd' : decide (i < E.length) = false := decide_eq_false hlt
            go_wp2
            go_ret
            exact ⟨rfl, pw_below_drewN hB5.out _⟩
end Go.Proofs.Ytdglbiafpofeeaa.Led
