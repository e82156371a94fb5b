/- Same: a disk is the document's, walked. -/
import Derived.Test.YtnplnelhodnonaaDkDo
import Derived.Deep.QuietTactic
import Derived.BigQuiet
namespace Go.Proofs.Ytnplnelhodnonaa.Dsk
open Go.RowKit Go.Proofs.YtnplnelhodnonaaW.PrintWords Go.Proofs.YtnplnelhodnonaaW.PrintLast Go.Proofs.YtnplnelhodnonaaW.PrintMore Go.Proofs.Ytnplnelhodnonaa.PDiskNil
open Amap Frm
set_option linter.unusedVariables false
set_option linter.unusedSimpArgs false
set_option maxHeartbeats 8000000 in
set_option maxRecDepth 100000 in
theorem Same_calls {base pd pr n : Nat} {w : World} {S : DSt} {R : RSt} (h : Both base w pd pr S R) (hbase : base ≤ w.heap.size) (hI : Inv n S R) (hn : n ≤ 400) :
    Calls Try.prog 15 #[.pointer (some ⟨pd, 0, none⟩), .pointer (some ⟨pr, 0, none⟩)] w fun e w' => e = .returned (.bool true) ∧ Below w.heap.size w w' := by
  obtain ⟨ns, hns⟩ : ∃ ns, R.L.map (·.1) = ns := ⟨_, rfl⟩
  obtain ⟨U, hU⟩ : ∃ U, used R.L = U := ⟨_, rfl⟩
  obtain ⟨E, hE⟩ : ∃ E, R.dead = E := ⟨_, rfl⟩
  have hsg := bSegs h hbase hI hn ns hns
  have hlen : ns.length = R.L.length := by rw [← hns, List.length_map]
  have hl100 : R.L.length ≤ 100000 := (hI.u hn).2.2.1
  obtain ⟨N, hN⟩ : ∃ N, R.L.length = N := ⟨_, rfl⟩
  rw [hlen, hN] at hsg
  have hel : Aside0 (∀ i, i < N → ∃ k q sy, R.L[i]? = some (k, (q, sy)) ∧ rd ns (i : Int) = k ∧ sg S.L k = (q, sy) ∧ domI k ∧ dread S k = (if R.dead = true then [] else q) ∧ dfind S k = (if R.dead = true then 8 else 0)) := ⟨fun i hi => by
    obtain ⟨⟨k, q, sy⟩, hq⟩ : ∃ q, R.L[i]? = some q := ⟨_, List.getElem?_eq_getElem (by omega)⟩
    have hlk := at_look hI.up.nd hq
    have hnum := hI.num _ (List.mem_of_getElem? hq)
    have hsgk : sg S.L k = (q, sy) := by rw [hI.sg, sg_some hlk]
    have hf : dfind S k = (if R.dead = true then 8 else 0) := by
      rw [← hI.find]
      cases hd : R.dead with
      | true => rw [rfind_dead hd]; rfl
      | false => rw [rfind_some hd hlk]; rfl
    refine ⟨k, q, sy, hq, ?_, hsgk, ?_, ?_, hf⟩
    · unfold rd
      rw [← hns, Int.toNat_natCast, List.getD_eq_getElem?_getD, List.getElem?_map, hq]
      rfl
    · unfold domI
      have h1 : IntKind.i64.min = -9223372036854775808 := by decide
      have h2 : IntKind.i64.max = 9223372036854775807 := by decide
      simp only [Lit.wf, h1, h2, Bool.and_eq_true, decide_eq_true_eq]
      simp only [] at hnum
      omega
    · unfold dread
      rw [hf, hsgk]
      cases R.dead <;> rfl⟩
  have h' := Aside0.mk h
  have hI' := Aside0.mk hI
  have hsg' := Aside0.mk hsg
  have hU' := Aside0.mk hU
  have hE' := Aside0.mk hE
  have hN' := Aside0.mk hN
  have hl' := Aside0.mk hl100
  have hlen' := Aside0.mk hlen
  have hn' := Aside0.mk hn
  clear h hI hsg hns hU hE hN hlen
  go_enter Try.func15, Try.ntmps15
  go_upto_region 2 with (first | (go_at_call 16; (with_reducible refine hsg'.out.mono ?_); rintro e w1 ⟨Al, cl, rfl, hcl, hR1, hb1⟩; have hR1' := Aside0.mk hR1; have hb1' := Aside0.mk hb1; clear hR1 hb1) | fail)
  have hs1 : base ≤ w1.heap.size := Nat.le_trans hbase hb1'.out.size
  have hB1 := h'.out.below hb1'.out
  obtain ⟨v0, c0, ⟨A0, cp0, hv0⟩, _, _, c3⟩ := hB1.rcells
  subst hv0
  rw [hN'.out] at c0
  rw [hE'.out] at c3
  have hB1' := Aside0.mk hB1
  have hx1 := Aside0.mk (bUsed (hB1.below (below_drew (Below.refl _ _))) hs1 hI'.out hn'.out U hU'.out)
  have hx3 := fun (W : World) (hb : Below w1.heap.size w1 W) => rUsed (hB1.below hb) (Nat.le_trans hs1 hb.size) hI'.out hn'.out U hU'.out
  have hx4 := fun (W : World) (hb : Below w1.heap.size w1 W) => bDown (hB1.below hb) (Nat.le_trans hs1 hb.size) hI'.out E hE'.out
  have hx3' := Aside0.mk hx3
  have hx4' := Aside0.mk hx4
  clear hB1 hx3 hx4
  go_region_held3 (fun w' => w'.cell? ⟨pr, 0, none⟩ = some (.slice A0 N cp0) ∧ w'.cell? ⟨pr, 3, none⟩ = some (.bool E))
    (first | (exact ⟨c0, c3⟩) | (exact ⟨keepx c0 hX2.out, keepx c3 hX2.out⟩))
    (first
      | (go_at_call 27; (with_reducible refine hx1.out.mono ?_); rintro e w2 ⟨rfl, hb2⟩; have hX2 : Aside0 (Below w1.heap.size w1 w2) := ⟨(below_drew (Below.refl _ _)).trans hb2⟩; clear hb2)
      | (go_at_call 46; (with_reducible refine (hx3'.out _ hX2.out).mono ?_); rintro e w3 ⟨rfl, rfl⟩)
      | (go_at_call 20; (with_reducible refine (hx4'.out _ hX2.out).mono ?_); rintro e w4 ⟨rfl, rfl⟩)
      | fail)
  have hB2' := Aside0.mk (hB1'.out.below hX2.out)
  have hR2' := Aside0.mk (Kd.R_below hR1'.out hX2.out)
  have hb2' := Aside0.mk (hb1'.out.trans (hX2.out.mono hb1'.out.size))
  have hs2 : base ≤ w2.heap.size := Nat.le_trans hs1 hX2.out.size
  clear c0 c3 hx1 hx3' hx4' hB1' hR1' hX2 hb1' hs1
  go_wp2_with fail
  go_loopg [37] (N + 1) (fun kq v37 w' => ∃ (i : Nat), v37 = .int .i64 (i : Int) ∧ Aside0 (kq + i = N + 1) ∧ Aside0 (i ≤ N) ∧ Aside0 (Below w2.heap.size w2 w'))
  case atStart => exact ⟨0, rfl, ⟨by omega⟩, ⟨by omega⟩, ⟨Below.refl _ _⟩⟩
  case round =>
    obtain ⟨i, rfl, hk, hi, hB⟩ := hrel
    by_cases hlt : i < N
    · have hd : decide ((i : Int) < (N : Int)) = true := decide_eq_true (by omega)
      have hd' : decide (i < N) = true := decide_eq_true hlt
      cases gk with
      | zero => exact absurd hk.out (by omega)
      | succ k1 =>
        obtain ⟨k, q, sy, hq, hrd, hsk, hdk, hrk, hfk⟩ := hel.out i hlt
        have hlt' := Aside0.mk hlt
        have p1 : 0 ≤ (i : Int) := by omega
        have q1 : (i : Int) < (N : Int) := by omega
        have hBr := Aside0.mk (hB2'.out.below hB.out)
        have hsr : base ≤ wr.heap.size := Nat.le_trans hs2 hB.out.size
        have hRr := Kd.R_below hR2'.out hB.out
        have hlenn : ns.length = N := hlen'.out.trans hN'.out
        obtain ⟨ad, hAl, hc0⟩ := Kd.at_int (Kd.R_reads' hRr).2.2 (i : Int) p1 (by rw [hlenn]; exact q1)
        subst hAl
        rw [hrd, show ((i : Int)).toNat = i from by simp] at hc0
        obtain ⟨g, cap, A2, c2, x0, x1, x2, x3, hC⟩ := hBr.out.relem hq
        rw [hN'.out] at x0
        simp only [] at x1 x2 x3 hC
        have hq' := Aside0.mk hq
        have hC' := Aside0.mk hC
        have hbs := Aside0.mk (bSynced (hBr.out.below (below_drew (Below.refl _ _))) hsr k hdk sy (by rw [hsk]))
        have hbr := fun (W : World) (hb : Below wr.heap.size wr W) => bRead (hBr.out.below hb) (Nat.le_trans hsr hb.size) hI'.out hn'.out k hdk _ _ hrk hfk
        have hbr' := Aside0.mk hbr
        clear hq hrd hsk hdk hrk hfk hRr hlenn hC hbr hlt
        go_upto_region 7 with fail
        go_region_held3 (fun w' => w'.cell? (ad.add i) = some (.int .i64 k) ∧ w'.cell? ⟨pr, 0, none⟩ = some (.slice (some ⟨g, 0, none⟩) N cap) ∧ w'.cell? ⟨g, i * 3, none⟩ = some (.int .i64 k) ∧ w'.cell? ⟨g, i * 3 + 2, none⟩ = some (.int .i64 (sy : Nat)))
          (first | (exact ⟨hc0, x0, x1, x3⟩))
          (first
            | (go_at_call 18; (with_reducible refine hbs.out.mono ?_); rintro e w3 ⟨rfl, rfl⟩)
            | fail)
        cases hdd : R.dead with
        | true =>
          rw [hdd] at hbr'
          simp only [if_true] at hbr'
          clear hdd
          go_wp2_with (first
            | (go_at_call 17; (with_reducible refine (hbr'.out _ (below_drew (Below.refl _ _))).mono ?_); rintro e w4 ⟨A3, c3, rfl, hR4, hb4⟩; have hb4' : Aside0 (Below wr.heap.size wr w4) := ⟨below_step (below_drew (Below.refl _ _)) hb4⟩; clear hR4 hb4)
            | fail)
          go_quiet (fail)
          go_wp2_with fail
          go_roundg k1
          case measure => have := hk.out; omega
          case rel => exact ⟨i + 1, by have := hl'.out; have := hN'.out; have := hlt'.out; congr 1; unfold wrap64; omega, ⟨by have := hk.out; omega⟩, ⟨by have := hlt'.out; omega⟩, ⟨(pw_below_drewN (hB.out.trans (hb4'.out.mono hB.out.size)) _)⟩⟩
        | false =>
          rw [hdd] at hbr'
          simp only [Bool.false_eq_true, if_false] at hbr'
          clear hdd
          go_upto_region 10 with (first
            | (go_at_call 17; (with_reducible refine (hbr'.out _ (below_drew (Below.refl _ _))).mono ?_); rintro e w4 ⟨A3, c3, rfl, hR4, hb4⟩; have hb4' : Aside0 (Below wr.heap.size wr w4) := ⟨below_step (below_drew (Below.refl _ _)) hb4⟩; have hR4' := Aside0.mk hR4; clear hR4 hb4)
            | fail)
          have y0 := keepx x0 hb4'.out
          have y2 := keepx x2 hb4'.out
          have s1 := fun m : Nat => Kd.C_string (P := Try.prog) (c := c3) Try.underlying30 Try.underlying5 Try.underlying9 (Kd.C_below (Kd.R_reads' hR4'.out).2.2 (pw_below_drewN (Below.refl _ _) m))
          have s2 := fun m : Nat => Kd.C_string (P := Try.prog) (c := c2) Try.underlying30 Try.underlying5 Try.underlying9 (Kd.C_below (Kd.C_below hC'.out hb4'.out) (pw_below_drewN (Below.refl _ _) m))
          clear x0 x1 x2 x3 hc0
          go_quiet (fail)
          go_wp2_with fail
          go_roundg k1
          case measure => have := hk.out; omega
          case rel => exact ⟨i + 1, by have := hl'.out; have := hN'.out; have := hlt'.out; congr 1; unfold wrap64; omega, ⟨by have := hk.out; omega⟩, ⟨by have := hlt'.out; omega⟩, ⟨(pw_below_drewN (hB.out.trans (hb4'.out.mono hB.out.size)) _)⟩⟩
    · have hd : decide ((i : Int) < (N : Int)) = false := decide_eq_false (by omega)
      have hd' : decide (i < N) = false := decide_eq_false hlt
      go_wp2
      go_ret
      exact ⟨rfl, hb2'.out.trans (hB.out.mono hb2'.out.size)⟩
end Go.Proofs.Ytnplnelhodnonaa.Dsk
