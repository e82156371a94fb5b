/- Send, where it sends. -/
import Derived.Test.YtjghlomkimoeoaaLinkSend
namespace Go.Proofs.Ytjghlomkimoeoaa.Lnk
open Go.RowKit Go.Proofs.YtjghlomkimoeoaaW.PrintWords Go.Proofs.YtjghlomkimoeoaaW.PrintLast Go.Proofs.YtjghlomkimoeoaaW.PrintMore Go.Proofs.Ytjghlomkimoeoaa.PLinksPlay
open Amap Stp
set_option linter.unusedVariables false
set_option linter.unusedSimpArgs false
theorem S3' {cur : World} {p : Nat} {A B C : Value} (hp : cur.heap[p]? = some (.cells #[A, B, C] 115 (0, 0))) : cur.cell? ⟨p, 0, none⟩ = some A ∧ cur.cell? ⟨p, 1, none⟩ = some B ∧ cur.cell? ⟨p, 2, none⟩ = some C :=
  ⟨(blk_cell hp 0).trans rfl, (blk_cell hp 1).trans rfl, (blk_cell hp 2).trans rfl⟩
theorem keepS3 {base : Nat} {W cur : World} {p t : Nat} {A B C : Value} {a c : Int} (hp : W.heap[p]? = some (.cells #[A, B, C] 115 (0, 0))) (ht : W.heap[t]? = some (.cells #[.int .i64 a, .int .i64 c] 116 (0, 0))) (hf : Fr [25] true base W cur) :
    cur.cell? ⟨p, 1, none⟩ = some B ∧ cur.cell? ⟨t, 0, none⟩ = some (.int .i64 a) ∧ cur.cell? ⟨t, 1, none⟩ = some (.int .i64 c) :=
  S3 (hf.same _ _ hp (by simp [Still])) (hf.same _ _ ht (by simp [Still]))
set_option maxHeartbeats 4000000 in
set_option maxRecDepth 100000 in
theorem Send_yes (S : LSt) (a c : Int) (hk : domK (a, c)) (A : Option Addr) (cp : Nat) (x : List Int) (ok : Nat → Prop) (p : Nat) (w : World) (hok : ∀ k, w.heap.size ≤ k → ok k) (h : IsLink ok w p S) (hth : there S (a, c) = true) (htot : tot S.L < 100)
    (hC : Kd.C (Kd.int .u8) w A x.length x) (hcp : x.length ≤ cp) (hx : x.length ≤ 1000000) :
    Calls Try.prog 19 #[.pointer (some ⟨p, 0, none⟩), .int .i64 a, .int .i64 c, .slice A x.length cp] w fun e w' => e = .returned (.int .i64 0) ∧ IsLink ok w' p ⟨S.parties, mput S.L (a, c) (line S.L (a, c) ++ [x])⟩ ∧ Fz ok w w' := by
  obtain ⟨h1, h2, h3⟩ := there_true hth
  have ha := party_calls S a ok p w h
  have hc := party_calls S c ok p w h
  rw [h1] at ha
  rw [h2] at hc
  have ha' := Aside0.mk ha
  have hc' := Aside0.mk hc
  obtain ⟨M, b, h⟩ := h
  have p2 : w.cell? ⟨p, 2, none⟩ = some (.int .i64 (tot S.L : Nat)) := (blk_cell h.blk 2).trans rfl
  have hpl : p < w.heap.size := blk_lt h.blk
  obtain ⟨t, ht⟩ : ∃ t, tot S.L = t := ⟨_, rfl⟩
  have htot' := htot
  rw [ht] at p2 htot'
  have hac : (a == c) = false := by simpa using h3
  have hd : decide ((100 : Int) ≤ (t : Int)) = false := decide_eq_false (by omega)
  have h' := Aside0.mk h
  have hk' := Aside0.mk hk
  have hC' := Aside0.mk hC
  have ht' := Aside0.mk ht
  clear ha hc h h1 h2 h3 hth ht hk hC htot
  go_enter Try.func19, Try.ntmps19
  go_wp2_with fail
  refine ha'.out.mono ?_
  rintro e w1 ⟨rfl, rfl⟩
  go_wp2_with fail
  refine hc'.out.mono ?_
  rintro e w1 ⟨rfl, rfl⟩
  go_upto_region 8 with fail
  refine wp_world (fun W hW => ?_)
  have hWB : Below w.heap.size w W := by rw [hW]; exact below_alloc (Below.refl _ _) _
  have hWt : W.heap[w.heap.size]? = some (.cells #[.int .i64 a, .int .i64 c] 116 (0, 0)) := by rw [hW]; exact blk_new _ _
  have hWh : LinkAt ok W p S M b := h'.out.below hWB
  have hWC : Kd.C (Kd.int .u8) W A x.length x := Kd.C_below hC'.out hWB
  have hWs : w.heap.size < W.heap.size := blk_lt hWt
  obtain ⟨es0, cl0, hb0, _⟩ := id hWh.map
  have hWB' := Aside0.mk hWB
  have hWt' := Aside0.mk hWt
  have hWh' := Aside0.mk hWh
  have hWC' := Aside0.mk hWC
  have hb0' := Aside0.mk hb0
  have hWok : ∀ k, W.heap.size ≤ k → ok k := fun k hk => hok k (by omega)
  have m0 := Aside0.mk (Mid.start hWh (a, c))
  obtain ⟨⟨v0, xs0⟩, hv0⟩ : ∃ v : Ln, (mlook M (a, c)).getD (.slice none 0 0, []) = v := ⟨_, rfl⟩
  have hxs0 : line S.L (a, c) = xs0 := by
    rw [hWh.line_eq]
    cases hl : mlook M (a, c) with
    | none => rw [hl] at hv0; cases hv0; rfl
    | some y => rw [hl] at hv0; simp only [Option.getD_some] at hv0; rw [hv0]; rfl
  have hq0 : Kd.Q kB 25 W 0 ok v0 xs0 := by
    cases hl : mlook M (a, c) with
    | none => rw [hl] at hv0; cases hv0; exact Kd.Q_nil _ _ _ _ _
    | some y => rw [hl] at hv0; simp only [Option.getD_some] at hv0; subst hv0; exact hWh.rows _ (mlook_mem hl)
  have hap0 : ∀ q ∈ M, q.1 ≠ (a, c) → ∀ g, v0.ownBlock = some g → q.2.1.ownBlock ≠ some g := by
    intro q hq hne g hg
    cases hl : mlook M (a, c) with
    | none => rw [hl] at hv0; cases hv0; simp [Value.ownBlock] at hg
    | some y => rw [hl] at hv0; simp only [Option.getD_some] at hv0; subst hv0; exact hWh.apart _ (mlook_mem hl) q hq (fun e => hne e.symm) g hg
  have hxl : xs0.length ≤ 100 := by
    have h9 := tot_put S.L (a, c) []
    rw [hxs0] at h9
    have h10 := ht'.out
    simp at h9
    omega
  have hq0' := Aside0.mk hq0
  have hap0' := Aside0.mk hap0
  have hv0' := Aside0.mk hv0
  have hxs0' := Aside0.mk hxs0
  clear hW hWB hWt hWh hWC hb0 hv0 hxs0 hq0 hap0 p2
  go_cut [] (fun wx => ∃ v, Aside0 (Mid ok W M (a, c) wx) ∧ Aside0 (MapIs ekey lval domK wx b (mput M (a, c) (v, xs0 ++ [x]))) ∧ Aside0 (Kd.Q kB 25 wx 0 ok v (xs0 ++ [x])) ∧ Aside0 (∀ q ∈ M, q.1 ≠ (a, c) → ∀ g, v.ownBlock = some g → q.2.1.ownBlock ≠ some g))
  case first =>
    obtain ⟨pp0, pt0, pt1⟩ := S3 hWh'.out.blk hWt'.out
    go_region_held3 (fun w' => w'.cell? ⟨p, 1, none⟩ = some (.map (some b)) ∧ w'.cell? ⟨w.heap.size, 0, none⟩ = some (.int .i64 a) ∧ w'.cell? ⟨w.heap.size, 1, none⟩ = some (.int .i64 c))
      (refine keepS3 (base := 0) hWh'.out.blk hWt'.out (by repeat (first | (with_reducible exact Fr.refl _ _ _ _) | (with_reducible exact mES.out.fr) | (with_reducible exact mAP.out.fr) | (with_reducible exact mME.out.fr) | (with_reducible exact mC.out.fr) | (with_reducible refine Fr.drew ?_) | (with_reducible refine Fr.alloc ?_ (Nat.zero_le _) _))))
      (first
        | (go_at_call 74; (refine (Clone_at A cp x _ (Kd.C_drew hWC'.out) hcp hx).mono ?_); rintro e w2 ⟨A2, c2, rfl, hR2, hb2⟩
           have hb2' : Below W.heap.size W w2 := (below_drew (Below.refl _ _)).trans hb2
           have mC := Aside0.mk (m0.out.below hb2')
           have hW2 : W.heap.size ≤ w2.heap.size := hb2'.size
           obtain ⟨st, w3, hrun, hm3, hg3, hst⟩ := MapIs.entry (w := w2.alloc (.cells #[.slice A2 x.length c2] 25)) (z := ((.slice none 0 0, []) : Ln)) (hWh'.out.map.move ((below_alloc hb2' _).block b hWh'.out.map.lt)) encK Try.underlying113 (by kernel_rfl) hk'.out
           rw [hv0'.out] at hrun hm3
           have hb3 : (w2.alloc (.cells #[.slice A2 x.length c2] 25)).heap[b]? = some (.map es0 cl0) := blk_alloc (blk_below hb0'.out hb2') _
           have mME := Aside0.mk ((mC.out.alloc (.cells #[.slice A2 x.length c2] 25)).map hWh'.out.bk hb3 hg3)
           have hR3 := Aside0.mk (R_map (Kd.R_alloc hR2 (.cells #[.slice A2 x.length c2] 25)) hb3 hg3)
           have hq3 := Aside0.mk (Q_map (Kd.Q_alloc (Kd.Q_below hq0'.out hb2') (.cells #[.slice A2 x.length c2] 25)) hb3 hg3)
           have he3 := Aside0.mk (blk_grown (blk_new w2 (.cells #[.slice A2 x.length c2] 25)) hg3 (by have := blk_lt hb0'.out; simp; omega))
           have hm3' := Aside0.mk hm3
           have hst' := Aside0.mk hst
           have hs3 := hg3.size
           rw [show (w2.alloc (.cells #[.slice A2 x.length c2] 25)).heap.size = w2.heap.size + 1 from by simp] at hs3
           unfold ekey lval at hrun
           simp only [] at hrun
           clear hm3 hst hb3 hg3 hR2 hb2)
        | ((refine Stp.Q_append_at kB 0 (by rfl) (.tmp 43) (.tmp 46) 117 25 (.slice none 0 0) 24 (by rfl) Try.underlying117 info25 rfl (by decide) (by omega) v0 xs0 x [.slice A2 x.length c2] ok (fun k => ok k ∧ some k ≠ v0.ownBlock) ⟨w2.heap.size, 0, none⟩ 1 (by rfl) (by rfl) ⟨_, rfl, Kd.R_apart' (Kd.R_lower (Kd.R_mono (Kd.R_bound hR3.out) (fun k hk => hWok k (by have := hk.2.1; simpa using this))) (Nat.zero_le _)) (Kd.Q_typed hq3.out) (by intro q hq; simp [Kd.int, Kd.scalar] at hq; omega)⟩ (World.news_of_block he3.out) (fun k hk => hk) (fun k hk => hWok k (by have := hk; (try simp only [World.heap_drew] at this); omega)) hq3.out (by omega) (by omega) ?_); intro v4 w4 hq4 hg4 hat4
           obtain ⟨A4, c4, e4, _⟩ := Kd.Q_slice hq4
           have e4' : v4 = .slice A4 (xs0.length + 1) c4 := by rw [e4]; simp
           clear e4
           subst e4'
           have mAP := Aside0.mk (mME.out.row hq3.out hap0'.out hg4)
           obtain ⟨es3, cl3, hb3, _⟩ := id hm3'.out
           have hb4 : w4.heap[b]? = some (.map es3 cl3) := blk_grown hb3 hg4 (fun e => by
             obtain ⟨cells, hc⟩ := Kd.Q_typed hq3.out b e.symm
             rw [hc] at hb3
             cases hb3)
           obtain ⟨w5, hrun5, hm5, hg5⟩ := hst'.out w4 (.slice A4 (xs0.length + 1) c4, xs0 ++ [x]) (hb4.trans hb3.symm)
           have mES := Aside0.mk (mAP.out.map hWh'.out.bk hb4 hg5)
           have hq5 := Aside0.mk (Q_map hq4 hb4 hg5)
           have hm5' := Aside0.mk hm5
           unfold lval goInt at hrun5
           simp only [] at hrun5
           clear hq4 hg4 hb3 hb4 hm5 hg5)
        | fail)
    go_wp2_with fail
    go_meet
    refine ⟨_, mES, hm5', hq5, ⟨fun q hq hne g hg => ?_⟩⟩
    rcases hat4 with e | ⟨g1, e, hg1⟩
    · exact hap0'.out q hq hne g (e ▸ hg)
    · rw [e] at hg
      cases hg
      intro e2
      have := Kd.Q_lt (hWh'.out.rows q hq) _ e2
      omega
  case rest =>
    obtain ⟨v5, m5, hm5, hq5, hap5⟩ := hcut
    have hpw := m5.out.fr.same p _ hWh'.out.blk (by simp [Still])
    obtain ⟨pw0, pw1, pw2⟩ := S3' hpw
    have pf2 := blk_frozen hpw 2
    have htp := tot_put S.L (a, c) (xs0 ++ [x])
    rw [hxs0'.out] at htp
    have htt := ht'.out
    have hres : ∀ w2, w2 = _ → IsLink ok w2 p ⟨S.parties, mput S.L (a, c) (line S.L (a, c) ++ [x])⟩ ∧ Fz ok W w2 := fun w2 e => by
      obtain ⟨r1, r2⟩ := hWh'.out.put m5.out hm5.out hq5.out hap5.out (t := (t : Int) + 1) (by simp at htp; omega) e
      rw [hxs0'.out]
      exact ⟨⟨_, _, r1⟩, r2⟩
    have hres' := Aside0.mk hres
    clear hres
    rw [htt] at pw2
    clear hpw
    go_wp2_with fail
    go_ret
    obtain ⟨r1, r2⟩ := hres'.out _ rfl
    exact ⟨rfl, r1, (Fz.of_below (hWB'.out) _).trans r2⟩
end Go.Proofs.Ytjghlomkimoeoaa.Lnk
