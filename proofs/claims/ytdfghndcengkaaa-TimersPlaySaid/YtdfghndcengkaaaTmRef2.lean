/- The document's timers: Take, Set, walked. -/
import Derived.Test.YtdfghndcengkaaaTmRef
namespace Go.Proofs.Ytdfghndcengkaaa.Tmr
open Go.RowKit Go.Proofs.YtdfghndcengkaaaW.PrintWords Go.Proofs.YtdfghndcengkaaaW.PrintLast Go.Proofs.YtdfghndcengkaaaW.PrintMore Go.Proofs.Ytdfghndcengkaaa.PTimersPlay
open Amap Frm
set_option linter.unusedVariables false
set_option linter.unusedSimpArgs false
set_option linter.unusedSectionVars false
theorem Fz.grown_new {ok : Nat → Prop} {w w1 w2 : World} (h : Fz ok w w1) {row : Option Nat} (hg : w1.grownBy w2 row) (hr : ∀ g, row = some g → w.heap.size ≤ g) : Fz ok w w2 := by
  have hlt : ∀ i, i < w.heap.size → w2.heap[i]? = w1.heap[i]? := fun i hi => hg.block i (Nat.lt_of_lt_of_le hi h.size) (fun e => by have := hr i e.symm; omega)
  exact ⟨⟨h.fr.below.grown hg (Nat.zero_le _) (fun _ _ => Nat.zero_le _), fun i o ho hs => (hlt i (blk_lt ho)).trans (h.fr.same i o ho hs)⟩, ⟨h.kp.below.grown hg (Nat.zero_le _) (fun _ _ => Nat.zero_le _), fun i hi hn => (hlt i hi).trans (h.kp.same i hi hn)⟩⟩
theorem IsR.over {ok : Nat → Prop} {w w1 : World} {p : Nat} {R : Tms} (h : IsR ok w p R) {base : Nat} {okr : Nat → Prop} {v : Value} {Ks : List ByteArray} (hR : Kd.R Kd.string 9 w base okr v Ks) (hg : w.grownBy w1 v.ownBlock) : IsR ok w1 p R := by
  obtain ⟨u, h⟩ := h
  exact ⟨u, h.pk, blk_grown h.blk hg (fun e => R_box hR h.blk (by decide) p e.symm rfl), Kd.R_over h.row hR (by simp [kT, Kd.string, Kd.int, Kd.scalar, Kd.pair]) hg⟩
theorem gone_cons (k : ByteArray) (d : Int) (m : Tms) (now : Int) : rgone ((k, d) :: m) now = if d ≤ now then k :: rgone m now else [] := by
  unfold rgone
  rw [List.takeWhile_cons]
  by_cases h : d ≤ now
  · simp [early, h]
  · simp [early, h]
theorem take_cons (k : ByteArray) (d : Int) (m : Tms) (now : Int) : rtake ((k, d) :: m) now = if d ≤ now then rtake m now else (k, d) :: m := by
  unfold rtake
  rw [List.dropWhile_cons]
  by_cases h : d ≤ now
  · simp [early, h]
  · simp [early, h]
def RTook (R : Tms) (ok : Nat → Prop) (p : Nat) (now : Int) (w w' : World) (e : Ending) : Prop :=
  ∃ (A : Option Addr) (cap : Nat), e = .returned (.slice A (rgone R now).length cap) ∧ Kd.R Kd.string 9 w' w.heap.size (fun k => w.heap.size ≤ k) (.slice A (rgone R now).length cap) (rgone R now) ∧ IsR ok w' p (rtake R now) ∧ Fz ok w w'
set_option maxHeartbeats 8000000 in
set_option maxRecDepth 100000 in
theorem RTake_calls (R : Tms) (hl : R.length ≤ 1000) (hn : nd R) (ok : Nat → Prop) (p : Nat) (w : World) (hok : ∀ k, w.heap.size ≤ k → ok k) (h : IsR ok w p R) (now : Int) : Calls Try.prog 13 #[.pointer (some ⟨p, 0, none⟩), .int .i64 now] w fun e w' => RTook R ok p now w w' e := by
  obtain ⟨G, hG⟩ : ∃ G, rgone R now = G := ⟨_, rfl⟩
  obtain ⟨R9, hR9⟩ : ∃ R9, rtake R now = R9 := ⟨_, rfl⟩
  have hfin : Aside0 (∀ (w' : World) (A : Option Addr) (cap : Nat), Kd.R Kd.string 9 w' w.heap.size (fun k => w.heap.size ≤ k) (.slice A G.length cap) G → IsR ok w' p R9 → Fz ok w w' → RTook R ok p now w w' (.returned (.slice A G.length cap))) := ⟨fun w' A cap h1 h2 h3 => by
    subst hG hR9
    exact ⟨A, cap, rfl, h1, h2, h3⟩⟩
  obtain ⟨N, hN⟩ : ∃ N, R.length = N := ⟨_, rfl⟩
  have h' := Aside0.mk h
  have hn' := Aside0.mk hn
  have hl' := Aside0.mk hl
  have hok' := Aside0.mk hok
  have hG' := Aside0.mk hG
  have hR9' := Aside0.mk hR9
  have hN' := Aside0.mk hN
  clear h hn hok hl hG hR9 hN
  go_enter Try.func13, Try.ntmps13
  go_wp2_with fail
  go_loopg [5] (N + 1) (fun kq v5 wr => ∃ (R1 : Tms) (A : Option Addr) (cap : Nat) (Os : List ByteArray), v5 = .slice A Os.length cap ∧ Aside0 (Os ++ rgone R1 now = G) ∧ Aside0 (rtake R1 now = R9) ∧ Aside0 (R1.length < kq) ∧ Aside0 (nd R1) ∧ Aside0 (R1.length + Os.length ≤ 1000) ∧ Aside0 (IsR ok wr p R1) ∧ Aside0 (Kd.R Kd.string 9 wr w.heap.size (fun k => w.heap.size ≤ k) (.slice A Os.length cap) Os) ∧ Aside0 (Fz ok w wr))
  case atStart => exact ⟨R, none, 0, [], rfl, hG', hR9', ⟨by rw [hN'.out]; omega⟩, hn', ⟨by simpa using hl'.out⟩, h', ⟨Kd.R_nil _ _ _ _ _⟩, ⟨Fz.refl _ _⟩⟩
  case round =>
    obtain ⟨R1, A, cap, Os, rfl, hO, hT, hk, hn1, hl1, hI, hR, hF⟩ := hrel
    obtain ⟨v, hI2⟩ := hI.out
    obtain ⟨Ar, cr, rfl, hcr⟩ := hI2.form
    have x0 := hI2.cell
    cases R1 with
    | nil =>
      have hO1 := hO.out
      have hT1 := hT.out
      rw [show rgone [] now = [] from rfl, List.append_nil] at hO1
      rw [show rtake [] now = [] from rfl] at hT1
      simp only [List.length_nil] at x0
      clear hI2 hcr hO hT hk
      go_wp2_with fail
      go_ret
      subst hO1 hT1
      exact hfin.out _ A cap hR.out hI.out hF.out
    | cons q m =>
      obtain ⟨k, d⟩ := q
      obtain ⟨g, hA, y0, y1⟩ := hI2.elem (i := 0) (q := (k, d)) rfl
      subst hA
      simp only [Nat.zero_mul, Nat.zero_add] at y0 y1
      have hO1 := hO.out
      have hT1 := hT.out
      rw [gone_cons] at hO1
      rw [take_cons] at hT1
      have hO1' := Aside0.mk hO1
      have hT1' := Aside0.mk hT1
      have hm1 : ((k, d) :: m).length = m.length + 1 := rfl
      rw [hm1] at x0
      have hgt : decide (((m.length + 1 : Nat) : Int) > 0) = true := decide_eq_true (by omega)
      by_cases hdn : d ≤ now
      · have e1 : decide (d ≤ now) = true := decide_eq_true hdn
        have hdn' := Aside0.mk hdn
        cases gk with
        | zero => exact absurd hk.out (by omega)
        | succ gk1 =>
          have hI2' := Aside0.mk hI2
          have hOl := Aside0.mk (show Os.length ≤ 1000 by have := hl1.out; omega)
          have hml := Aside0.mk (show m.length + (Os.length + 1) ≤ 1000 by have := hl1.out; rw [hm1] at this; omega)
          have hnm := Aside0.mk (show nd m from (List.nodup_cons.1 hn1.out).2)
          have hkm := Aside0.mk (show m.length < gk1 by have := hk.out; rw [hm1] at this; omega)
          have hws : w.heap.size ≤ wr.heap.size := hF.out.size
          clear hI2 hcr hO hT hk hdn hO1 hT1
          go_upto_region 4 with (first
            | ((with_reducible refine gate_builtin (b := .append) (xs := #[.tmp 23, .tmp 31]) rfl ?_); at_builtin
               refine Kd.R_append Kd.string (w0 := wr) w.heap.size rfl (.tmp 23) (.tmp 31) 39 9 (.string ⟨#[]⟩) 16 rfl Try.underlying39 info9 rfl (by decide) (by omega) (.slice A Os.length cap) Os k [.string k] (fun k => w.heap.size ≤ k) (fun _ => False) rfl rfl rfl (fun _ hk => hk.elim) (fun j hj => Nat.le_trans hws hj) hR.out (Below.refl _ _) hws ?aL ?_
               (case aL => have := hOl.out; omega)
               intro v8 w8 ho8 hb8 hg8 hat8
               obtain ⟨A8, c8, e8, _, _⟩ := Kd.R_reads ho8
               have hi8 := Aside0.mk (hI.out.over hR.out hg8)
               have hf8 := Aside0.mk (hF.out.grown_new hg8 (fun k hk => hR.out.1 k hk))
               have y08 : Aside0 (w8.cell? ⟨p, 0, none⟩ = some (.slice (some ⟨g, 0, none⟩) (m.length + 1) cr)) := ⟨((blk_cell (blk_grown hI2'.out.blk hg8 (fun e => R_box hR.out hI2'.out.blk (by decide) p e.symm rfl)) 0).trans rfl)⟩
               have y18 : Aside0 (w8.cell? ⟨g, 0, none⟩ = some (.string k)) := ⟨by
                 have h9 := Kd.R_typed hI2'.out.row g (by simp [Value.ownBlock])
                 obtain ⟨cs, hcs⟩ := h9
                 have h10 := blk_grown hcs hg8 (fun e => R_box hR.out hcs (by decide) g e.symm rfl)
                 rw [blk_cell h10 0]
                 rw [blk_cell hcs 0] at y0
                 exact y0⟩
               subst e8
               have ho8' := Aside0.mk ho8
               have hs8 : wr.heap.size ≤ w8.heap.size := hg8.size
               clear ho8 hb8 hg8 hat8 x0 y0 y1)
            | fail)
          have x0 := y08.out
          have y0 := y18.out
          have hst := Aside0.mk (RStop_calls ((k, d) :: m) (by have := hl1.out; omega) hn1.out ok p w8 (fun j hj => hok'.out j (by omega)) hi8.out k)
          have hdel : mdel ((k, d) :: m) k = m := by unfold mdel; rw [if_pos rfl]
          rw [hdel] at hst
          clear hdel
          go_wp2_with (first
            | (go_at_call 10; (with_reducible refine hst.out.mono ?_); rintro e w9 ⟨rfl, hI9, hf9⟩; have hI9' := Aside0.mk hI9; have hf9' := Aside0.mk hf9; clear hI9 hf9)
            | fail)
          go_roundg gk1
          case measure => omega
          case rel => exact ⟨m, A8, c8, Os ++ [k], by simp, ⟨by have h9 := hO1'.out; rw [if_pos hdn'.out] at h9; rw [← h9]; simp⟩, ⟨by have h9 := hT1'.out; rw [if_pos hdn'.out] at h9; exact h9⟩, hkm, hnm, ⟨by simpa using hml.out⟩, hI9', ⟨R_fr ho8'.out hf9'.out.fr (by simp [Kd.string, Kd.scalar])⟩, ⟨hf8.out.trans hf9'.out⟩⟩
      · have e1 : decide (d ≤ now) = false := decide_eq_false hdn
        rw [if_neg hdn, List.append_nil] at hO1
        rw [if_neg hdn] at hT1
        clear hI2 hcr hO hT hk hdn hO1' hT1'
        go_wp2_with fail
        go_ret
        subst hO1 hT1
        exact hfin.out _ A cap hR.out hI.out hF.out
end Go.Proofs.Ytdfghndcengkaaa.Tmr
