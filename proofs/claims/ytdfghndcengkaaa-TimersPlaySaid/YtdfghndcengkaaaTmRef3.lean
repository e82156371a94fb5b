/- The document's Set, walked. -/
import Derived.Test.YtdfghndcengkaaaTmRef2
import Derived.Deep.DeepCutAuto
namespace Go.Proofs.Ytdfghndcengkaaa.Tmr
open Go.RowKit Go.Proofs.YtdfghndcengkaaaW.PrintWords Go.Proofs.YtdfghndcengkaaaW.PrintLast Go.Proofs.YtdfghndcengkaaaW.PrintMore Go.Proofs.Ytdfghndcengkaaa.PTimersPlay
open Amap Frm
set_option linter.unusedVariables false
set_option linter.unusedSimpArgs false
set_option linter.unusedSectionVars false
theorem ins_cut {x : Tm} : ∀ (L : Tms) (n : Nat), n ≤ L.length → (∀ (j : Nat) (q : Tm), j < n → L[j]? = some q → tlt q x) → (∀ q, L[n]? = some q → ¬ tlt q x) → (L.take n ++ [x]) ++ L.drop n = rins L x
  | [], n, hn, _, _ => by simp at hn; subst hn; rfl
  | q :: L, 0, _, _, h => by
    unfold rins
    rw [if_neg (h q rfl)]
    rfl
  | q :: L, n + 1, hn, h1, h2 => by
    unfold rins
    rw [if_pos (h1 0 q (by omega) rfl), ← ins_cut L n (by simp at hn; omega) (fun j r hj hr => h1 (j + 1) r (by omega) (by simpa using hr)) (fun r hr => h2 r (by simpa using hr))]
    rfl
theorem tlt_iff (k key : ByteArray) (d due : Int) : tlt (k, d) (key, due) ↔ d < due ∨ (d = due ∧ kless k key = true) := by
  unfold tlt
  simp only []
  rw [kless_iff]
set_option maxHeartbeats 8000000 in
set_option maxRecDepth 100000 in
theorem RSet_calls (R : Tms) (hl : R.length ≤ 1000) (hn : nd R) (ok : Nat → Prop) (p : Nat) (w : World) (hok : ∀ k, w.heap.size ≤ k → ok k) (h : IsR ok w p R) (key : ByteArray) (due : Int) : Calls Try.prog 8 #[.pointer (some ⟨p, 0, none⟩), .string key, .int .i64 due] w fun e w' => e = .returned (.tuple #[]) ∧ IsR ok w' p (rset R key due) ∧ Fz ok w w' := by
  have hst := Aside0.mk (RStop_calls R hl hn ok p w hok h key)
  obtain ⟨R0, hR0⟩ : ∃ R0, mdel R key = R0 := ⟨_, rfl⟩
  have hl0 : R0.length ≤ 1000 := by rw [← hR0]; exact Nat.le_trans (del_sub R key).length_le hl
  have hset : rset R key due = rins R0 (key, due) := by unfold rset; rw [hR0]
  rw [hset]
  obtain ⟨R9, hR9⟩ : ∃ R9, rins R0 (key, due) = R9 := ⟨_, rfl⟩
  rw [hR9]
  rw [hR0] at hst
  have hR9' := Aside0.mk hR9
  have hl0' := Aside0.mk hl0
  have hok' := Aside0.mk hok
  clear h hn hok hl hR0 hset hR9
  obtain ⟨N, hN⟩ : ∃ N, R0.length = N := ⟨_, rfl⟩
  have hN' := Aside0.mk hN
  rw [hN] at hl0
  clear hN
  go_enter Try.func8, Try.ntmps8
  go_upto_block 0 with (first
    | (go_at_call 10; (with_reducible refine hst.out.mono ?_); rintro e w1 ⟨rfl, hI, hF⟩; have hI' := Aside0.mk hI; have hF' := Aside0.mk hF; clear hI hF)
    | fail)
  obtain ⟨v, hI2⟩ := hI'.out
  obtain ⟨A, cr, rfl, hcr⟩ := hI2.form
  have x0 := hI2.cell
  rw [hN'.out] at x0 hcr hI2
  have hI2' := Aside0.mk hI2
  clear hI2 hst
  go_cut [6] (fun v6 wx => ∃ n : Nat, v6 = .int .i64 (n : Int) ∧ Aside0 (n ≤ N) ∧ Aside0 ((R0.take n ++ [(key, due)]) ++ R0.drop n = R9) ∧ wx = w1)
  case first =>
    go_wp2_with fail
    go_loopg [6] (N + 1) (fun kq v6 w' => ∃ (n : Nat), v6 = .int .i64 (n : Int) ∧ Aside0 (kq + n = N + 1) ∧ Aside0 (n ≤ N) ∧ Aside0 (∀ (j : Nat) (q : Tm), j < n → R0[j]? = some q → tlt q (key, due)) ∧ w' = w1)
    case atStart => exact ⟨0, rfl, ⟨by omega⟩, ⟨by omega⟩, ⟨fun j q hj => absurd hj (by omega)⟩, rfl⟩
    case round =>
      obtain ⟨n, rfl, hk, hi, hlt9, rfl⟩ := hrel
      have hcutn : Aside0 ((∀ q, R0[n]? = some q → ¬ tlt q (key, due)) → (R0.take n ++ [(key, due)]) ++ R0.drop n = R9) := ⟨fun h => by rw [← hR9'.out]; exact ins_cut R0 n (by rw [hN'.out]; exact hi.out) hlt9.out h⟩
      by_cases hlt : n < N
      · have hd : decide ((n : Int) < (N : Int)) = true := decide_eq_true (by omega)
        have hd' : decide (n < N) = true := decide_eq_true hlt
        have q1 : (n : Int) < (N : Int) := by omega
        cases gk with
        | zero => exact absurd hk.out (by omega)
        | succ gk1 =>
          obtain ⟨⟨qk, qd⟩, hq⟩ : ∃ q, R0[n]? = some q := ⟨_, List.getElem?_eq_getElem (by rw [hN'.out]; exact hlt)⟩
          obtain ⟨g, hA, y0, y1⟩ := hI2'.out.elem hq
          simp only [] at y0 y1
          have hA' := Aside0.mk hA
          subst hA
          have hq' := Aside0.mk hq
          have hlt' := Aside0.mk hlt
          have hti := Aside0.mk (tlt_iff qk key qd due)
          clear hq hlt
          have hup : Aside0 (tlt (qk, qd) (key, due) → ∀ (j : Nat) (q : Tm), j < n + 1 → R0[j]? = some q → tlt q (key, due)) := ⟨fun ht j q hj hjq => by
            by_cases hji : j = n
            · subst hji
              rw [hq'.out] at hjq
              cases hjq
              exact ht
            · exact hlt9.out j q (by omega) hjq⟩
          have hno : Aside0 (¬ tlt (qk, qd) (key, due) → ∀ q, R0[n]? = some q → ¬ tlt q (key, due)) := ⟨fun ht q hjq => by
            rw [hq'.out] at hjq
            cases hjq
            exact ht⟩
          by_cases c1 : qd < due
          · have e1 : decide (qd < due) = true := decide_eq_true c1
            have ht := Aside0.mk (hti.out.2 (.inl c1))
            clear c1
            go_wp2_with fail
            go_roundg gk1
            case measure => have := hk.out; omega
            case rel => exact ⟨n + 1, by go_num, ⟨by have := hk.out; omega⟩, ⟨by have := hlt'.out; omega⟩, ⟨hup.out ht.out⟩, rfl⟩
          · have e1 : decide (qd < due) = false := decide_eq_false c1
            by_cases c2 : qd = due
            · subst c2
              cases c3 : kless qk key with
              | true =>
                have e3 : Op.bytesLess qk.toList key.toList = true := c3
                have ht := Aside0.mk (hti.out.2 (.inr ⟨rfl, c3⟩))
                clear c1 c3
                go_wp2_with fail
                go_roundg gk1
                case measure => have := hk.out; omega
                case rel => exact ⟨n + 1, by go_num, ⟨by have := hk.out; omega⟩, ⟨by have := hlt'.out; omega⟩, ⟨hup.out ht.out⟩, rfl⟩
              | false =>
                have e3 : Op.bytesLess qk.toList key.toList = false := c3
                have ht : Aside0 (¬ tlt (qk, qd) (key, qd)) := ⟨fun h => by
                  rcases hti.out.1 h with h | h
                  · exact c1 h
                  · rw [c3] at h; cases h.2⟩
                clear c1 c3
                go_wp2_with fail
                go_meet
                exact ⟨n, rfl, hi, ⟨hcutn.out (hno.out ht.out)⟩, rfl⟩
            · have e2 : (qd == due) = false := by simpa using c2
              have ht : Aside0 (¬ tlt (qk, qd) (key, due)) := ⟨fun h => by
                rcases hti.out.1 h with h | h
                · exact c1 h
                · exact c2 h.1⟩
              clear c1 c2
              go_wp2_with fail
              go_meet
              exact ⟨n, rfl, hi, ⟨hcutn.out (hno.out ht.out)⟩, rfl⟩
      · have hd : decide ((n : Int) < (N : Int)) = false := decide_eq_false (by omega)
        have hd' : decide (n < N) = false := decide_eq_false hlt
        have hie : n = N := by have := hi.out; omega
        have hno : Aside0 (∀ q, R0[n]? = some q → ¬ tlt q (key, due)) := ⟨fun q hq => by
          have := (List.getElem?_eq_some_iff.1 hq).1
          rw [hN'.out] at this
          omega⟩
        clear hlt hie
        go_wp2_with fail
        go_meet
        exact ⟨n, rfl, hi, ⟨hcutn.out hno.out⟩, rfl⟩
  case rest =>
    obtain ⟨n, rfl, hnN, hput, rfl⟩ := hcut
    have hws : w.heap.size ≤ wc.heap.size := hF'.out.size
    obtain ⟨hcut1, hq1, A3, c3', hcut2, hq2⟩ := cuts2 (Kd.Q_mono (Kd.Q_bound (Kd.Q_of_R hI2'.out.row)) (ok' := fun k => (ok k ∧ k ≠ p) ∧ k < wc.heap.size) (fun k hk => ⟨hk.1, hk.2.2.1⟩)) hnN.out
    have hp1 : p < wc.heap.size := blk_lt hI2'.out.blk
    have hok1' : Aside0 (∀ k, wc.heap.size ≤ k → ok k ∧ k ≠ p) := ⟨fun k hk => ⟨hok'.out k (Nat.le_trans hws hk), by omega⟩⟩
    have hq1' := Aside0.mk hq1
    have hq2' := Aside0.mk hq2
    have htl' : Aside0 ((R0.take n).length = n) := ⟨by rw [List.length_take, hN'.out]; have := hnN.out; omega⟩
    have p0 : 0 ≤ (n : Int) := by omega
    have pn : (n : Int) ≤ (N : Int) := by have := hnN.out; omega
    clear hq1 hq2
    go_upto_region 6 with (first
      | ((with_reducible refine gate_builtin (b := .append) (xs := #[.tmp 56, .tmp 62]) rfl ?_); at_builtin
         refine Kd.R_append_rows kT (w0 := wc) 0 rfl (.tmp 56) (.tmp 62) 28 46 (.agg #[.string ⟨#[]⟩, .int .i64 0]) 24 rfl Try.underlying28 info46 rfl (by decide) (by decide) (.slice none 0 0) [] (R0.take n) A n cr (fun k => ok k ∧ k ≠ p) (fun k => (ok k ∧ k ≠ p) ∧ k < wc.heap.size) rfl rfl (Kd.R_nil _ _ _ _ _) (Q_rows hq1'.out) (fun _ _ hx => hx) (fun k hk => ⟨hk.1, by simp [Value.ownBlock]⟩) (fun k hk => hok1'.out k hk) (below0 (Below.refl _ _)) (Nat.zero_le _) (by have := hnN.out; have := hl0'.out; rw [hN'.out] at this; simp; omega) ?_
         intro v3 w3 hR3 _ hg3 hat3
         rw [List.nil_append] at hR3
         have hB3 : Aside0 (Below wc.heap.size wc w3) := ⟨(Below.refl _ _).grown hg3 (Nat.le_refl _) (fun k e => by simp [Value.ownBlock] at e)⟩
         have hfr3 : Aside0 (∀ k, v3.ownBlock = some k → wc.heap.size ≤ k) := ⟨fun k e => by
           rcases hat3 with e1 | ⟨b, e1, hb⟩
           · rw [e1] at e; simp [Value.ownBlock] at e
           · rw [e1] at e; cases e; exact hb⟩
         have hR3' := Aside0.mk hR3
         clear hR3 hg3 hat3)
      | fail)
    have hs3 : wc.heap.size ≤ w3.heap.size := hB3.out.size
    go_upto_region 7 with (first
      | ((with_reducible refine gate_builtin (b := .append) (xs := #[.tmp 64, .tmp 68]) rfl ?_); at_builtin
         refine Kd.R_append kT (w0 := w3) 0 rfl (.tmp 64) (.tmp 68) 28 46 (.agg #[.string ⟨#[]⟩, .int .i64 0]) 24 rfl Try.underlying28 info46 rfl (by decide) (by decide) v3 (R0.take n) (key, due) [.string key, .int .i64 due] (fun k => ok k ∧ k ≠ p) (fun _ => False) rfl rfl (kT_mk _ _ _ (key, due)) (fun _ hk => hk.elim) (fun j hj => hok1'.out j (Nat.le_trans hs3 hj)) hR3'.out (below0 (Below.refl _ _)) (Nat.zero_le _) ?aL ?_
         (case aL => rw [htl'.out]; have := hnN.out; have := hl0'.out; rw [hN'.out] at this; omega)
         intro v4 w4 hR4 _ hg4 hat4
         have hB4 : Aside0 (Below wc.heap.size wc w4) := ⟨hB3.out.grown hg4 hs3 (fun k e => hfr3.out k e)⟩
         have hfr4 : Aside0 (∀ k, v4.ownBlock = some k → wc.heap.size ≤ k) := ⟨fun k e => by
           rcases hat4 with e1 | ⟨b, e1, hb⟩
           · exact hfr3.out k (e1 ▸ e)
           · rw [e1] at e; cases e; omega⟩
         have hR4' := Aside0.mk hR4
         clear hR4 hg4 hat4)
      | fail)
    have hs4 : wc.heap.size ≤ w4.heap.size := hB4.out.size
    have x4 := keepx x0 hB4.out
    have hlen : Aside0 ((R0.take n ++ [(key, due)]).length = n + 1) := ⟨by rw [List.length_append, htl'.out]; rfl⟩
    have hfz := Aside0.mk (blk_frozen (hI2'.out.below hB4.out).blk 0)
    go_wp2_with (first
      | ((with_reducible refine gate_builtin (b := .append) (xs := #[.tmp 71, .tmp 77]) rfl ?_); at_builtin
         refine Kd.R_append_rows kT (w0 := w4) 0 rfl (.tmp 71) (.tmp 77) 28 46 (.agg #[.string ⟨#[]⟩, .int .i64 0]) 24 rfl Try.underlying28 info46 rfl (by decide) (by decide) v4 (R0.take n ++ [(key, due)]) (R0.drop n) A3 (N - n) c3' (fun k => ok k ∧ k ≠ p) (fun k => (ok k ∧ k ≠ p) ∧ k < wc.heap.size) rfl rfl hR4'.out (Q_rows (Kd.Q_below hq2'.out hB4.out)) (fun _ _ hx => hx) (fun k hk => ⟨hk.1, fun e => by have := hfr4.out k e.symm; omega⟩) (fun k hk => hok1'.out k (by omega)) (below0 (Below.refl _ _)) (Nat.zero_le _) (by rw [hlen.out]; have := hnN.out; have := hl0'.out; rw [hN'.out] at this; omega) ?_
         intro v5 w5 hR5 _ hg5 _
         have hB5 : Aside0 (Below wc.heap.size wc w5) := ⟨hB4.out.grown hg5 hs4 (fun k e => hfr4.out k e)⟩
         rw [hput.out] at hR5
         obtain ⟨A5, c5, e5⟩ := Kd.R_slice hR5
         subst e5
         have hfin := Aside0.mk (hI2'.out.newRow hB5.out hR5)
         have f5 := (hB5.out.frozen (p := ⟨p, 0, none⟩) hp1).trans (blk_frozen hI2'.out.blk 0)
         have x5 := keepx x0 hB5.out
         clear hR5 hg5)
      | fail)
    go_end0
    exact ⟨rfl, ⟨_, hfin.out.1⟩, hF'.out.trans hfin.out.2⟩
end Go.Proofs.Ytdfghndcengkaaa.Tmr
