/- Take, walked. -/
import Derived.Test.YtjghlomkimoeoaaLinkDel
import Derived.Test.YtjghlomkimoeoaaLinkSend2
namespace Go.Proofs.Ytjghlomkimoeoaa.Lnk
open Go.RowKit Go.Proofs.YtjghlomkimoeoaaW.PrintWords Go.Proofs.YtjghlomkimoeoaaW.PrintLast Go.Proofs.YtjghlomkimoeoaaW.PrintMore Go.Proofs.Ytjghlomkimoeoaa.PLinksPlay
open Amap Stp
set_option linter.unusedVariables false
set_option linter.unusedSimpArgs false
theorem wrap_small (n : Nat) (h : n ≤ 100) : IntKind.i64.wrap ((n : Int) + 1) = (n : Int) + 1 := by
  simp [IntKind.wrap, IntKind.signed, IntKind.bits]
  omega
def take (S : LSt) (k : Key) (i : Int) : LSt := match peek S k i with
  | none => S
  | some _ => ⟨S.parties, mput S.L k ((line S.L k).eraseIdx i.toNat)⟩
set_option maxHeartbeats 1000000 in
set_option maxRecDepth 100000 in
theorem Take_none (S : LSt) (a c i : Int) (hk : domK (a, c)) (hx : peek S (a, c) i = none) (ok : Nat → Prop) (p : Nat) (w : World) (h : IsLink ok w p S) :
    Calls Try.prog 21 #[.pointer (some ⟨p, 0, none⟩), .int .i64 a, .int .i64 c, .int .i64 i] w fun e w' => e = .returned (.tuple #[.slice none 0 0, .bool false]) ∧ w = w' := by
  have hp := Aside0.mk (Peek_none S a c i hk hx ok p w h)
  clear hx h
  go_enter Try.func21, Try.ntmps21
  go_wp2_with (first
    | (go_at_call 20; (with_reducible refine hp.out.mono ?_); rintro e w1 ⟨rfl, rfl⟩)
    | fail)
  go_ret2
  exact ⟨rfl, rfl⟩
set_option maxHeartbeats 4000000 in
set_option maxRecDepth 100000 in
theorem Take_some (S : LSt) (a c i : Int) (hk : domK (a, c)) (x : List Int) (hx : peek S (a, c) i = some x) (hs : Small S) (ok : Nat → Prop) (p : Nat) (w : World) (hok : ∀ k, w.heap.size ≤ k → ok k) (h : IsLink ok w p S) :
    Calls Try.prog 21 #[.pointer (some ⟨p, 0, none⟩), .int .i64 a, .int .i64 c, .int .i64 i] w fun e w' => ∃ A2 c2, e = .returned (.tuple #[.slice A2 x.length c2, .bool true]) ∧ Kd.R (Kd.int .u8) 5 w' w.heap.size (fun _ => True) (.slice A2 x.length c2) x ∧ IsLink ok w' p (take S (a, c) i) ∧ Fz ok w w' := by
  have htk : take S (a, c) i = ⟨S.parties, mput S.L (a, c) ((line S.L (a, c)).eraseIdx i.toNat)⟩ := by unfold take; rw [hx]
  obtain ⟨hi0, hi1, hi2⟩ := peek_some hx
  have hp := Aside0.mk (Peek_some S a c i hk x hx hs ok p w h)
  have hl100 := (hs.line (a, c)).1
  have hl100' := Aside0.mk hs.1
  obtain ⟨n, rfl⟩ : ∃ n : Nat, i = (n : Int) := ⟨i.toNat, by omega⟩
  rw [htk]
  simp only [Int.toNat_natCast]
  have h' := Aside0.mk h
  have hk' := Aside0.mk hk
  have hi1' : n < (line S.L (a, c)).length := by omega
  have hi100 : n ≤ 100 := by omega
  have hi1'' := Aside0.mk hi1'
  have hwr : IntKind.i64.wrap ((n : Int) + 1) = (n : Int) + 1 := wrap_small n hi100
  clear htk hx hs h hk hi1 hi2 hi0 hl100 hi1'
  go_enter Try.func21, Try.ntmps21
  go_upto_region 4 with (first
    | (go_at_call 20; (with_reducible refine hp.out.mono ?_); rintro e w1 ⟨A2, c2, rfl, hR, hb⟩)
    | fail)
  refine wp_world (fun W hW => ?_)
  have hWB : Below w.heap.size w W := by rw [hW]; exact below_alloc hb _
  have hWt : W.heap[w1.heap.size]? = some (.cells #[.int .i64 a, .int .i64 c] 116 (0, 0)) := by rw [hW]; exact blk_new _ _
  have hWR : Kd.R (Kd.int .u8) 5 W w.heap.size (fun _ => True) (.slice A2 x.length c2) x := by rw [hW]; exact Kd.R_alloc hR _
  obtain ⟨M, b, hWh⟩ := h'.out.below hWB
  obtain ⟨xs, hxs⟩ : ∃ xs, line S.L (a, c) = xs := ⟨_, rfl⟩
  have hn := hi1''.out
  rw [hxs] at hn
  obtain ⟨v0, hv0⟩ : ∃ v0, mlook M (a, c) = some (v0, xs) := by
    have h9 := hWh.line_eq (a, c)
    rw [hxs] at h9
    cases hl : mlook M (a, c) with
    | none => rw [hl] at h9; subst h9; simp at hn
    | some y => rw [hl] at h9; exact ⟨y.1, by rw [h9]; rfl⟩
  have hq0 : Kd.Q kB 25 W 0 ok v0 xs := hWh.rows _ (mlook_mem hv0)
  have hap0 : ∀ q ∈ M, q.1 ≠ (a, c) → ∀ g, v0.ownBlock = some g → q.2.1.ownBlock ≠ some g := fun q hq hne g hg => hWh.apart _ (mlook_mem hv0) q hq (fun e => hne e.symm) g hg
  obtain ⟨A0, c0, rfl, _⟩ := Kd.Q_slice hq0
  have hz : (zeroValue 117).run Try.prog W.drew = .ok (.slice none 0 0) W.drew := by kernel_rfl
  have hl := (hWh.map.move (w' := W.drew) rfl).lookup encK Try.underlying113 hz hk'.out false
  simp only [Bool.false_eq_true, if_false] at hl
  rw [hv0] at hl
  simp only [Option.map_some, Option.getD_some] at hl
  unfold ekey lval at hl
  simp only [] at hl
  obtain ⟨es0, cl0, hb0, _⟩ := id hWh.map
  have hWB' := Aside0.mk hWB
  have hWt' := Aside0.mk hWt
  have hWR' := Aside0.mk hWR
  have hWh' := Aside0.mk hWh
  have hb0' := Aside0.mk hb0
  have hq0' := Aside0.mk hq0
  have hap0' := Aside0.mk hap0
  have hxs' := Aside0.mk hxs
  have hnx := Aside0.mk hn
  obtain ⟨m, hm⟩ : ∃ m, xs.length = m := ⟨_, rfl⟩
  rw [hm] at hl
  have hm' := Aside0.mk hm
  have m0 := Aside0.mk (Mid.start hWh (a, c))
  clear hW hWB hWt hWR hWh hb0 hq0 hap0 hxs hn hv0 hR hb hz hm
  go_cut [] (fun wx => ∃ v, Aside0 (Mid ok W M (a, c) wx) ∧ Aside0 (MapIs ekey lval domK wx b (mput M (a, c) (v, xs.eraseIdx n))) ∧ Aside0 (Kd.Q kB 25 wx 0 ok v (xs.eraseIdx n)) ∧ Aside0 (∀ q ∈ M, q.1 ≠ (a, c) → ∀ g, v.ownBlock = some g → q.2.1.ownBlock ≠ some g))
  case first =>
    obtain ⟨pp0, pt0, pt1⟩ := S3 hWh'.out.blk hWt'.out
    go_region_held3 (fun w' => w'.cell? ⟨p, 1, none⟩ = some (.map (some b)) ∧ w'.cell? ⟨w1.heap.size, 0, none⟩ = some (.int .i64 a) ∧ w'.cell? ⟨w1.heap.size, 1, none⟩ = some (.int .i64 c))
      (refine keepS3 (base := 0) hWh'.out.blk hWt'.out (by repeat (first | (with_reducible exact Fr.refl _ _ _ _) | (with_reducible exact mDL.out.fr) | (with_reducible exact mUP.out.fr) | (with_reducible refine Fr.drew ?_))))
      (first
        | (go_at_call 75; (with_reducible refine (Delete_calls (.slice A0 m c0) xs n 0 _ ok (Kd.Q_drew (by rw [← hm'.out]; exact hq0'.out)) hnx.out).mono ?_); rintro e w2 ⟨v2, rfl, hq2, hg2, ho2⟩
           have hqd : Kd.Q kB 25 W.drew 0 ok (.slice A0 m c0) xs := Kd.Q_drew (by rw [← hm'.out]; exact hq0'.out)
           have mDL := Aside0.mk (m0.out.drew.row hqd (by rw [← hm'.out]; exact hap0'.out) hg2)
           have hb2 : w2.heap[b]? = some (.map es0 cl0) := blk_grown (w := W.drew) hb0'.out hg2 (fun e => by
             obtain ⟨cells, hc⟩ := Kd.Q_typed hqd b e.symm
             have := hb0'.out
             rw [show W.drew.heap[b]? = W.heap[b]? from rfl] at hc
             rw [hc] at this
             cases this)
           obtain ⟨w3, hrun, hm3, hg3⟩ := (hWh'.out.map.move (w' := w2) (hb2.trans hb0'.out.symm)).update encK Try.underlying113 hk'.out ((v2, xs.eraseIdx n) : Ln)
           have mUP := Aside0.mk (mDL.out.map hWh'.out.bk hb2 hg3)
           have hq3 := Aside0.mk (Q_map hq2 hb2 hg3)
           have hm3' := Aside0.mk hm3
           have ho2' := Aside0.mk ho2
           unfold ekey lval at hrun
           simp only [] at hrun
           clear hq2 hg2 hb2 hm3 hg3 ho2 hqd)
        | fail)
    go_wp2_with fail
    go_meet
    refine ⟨_, mUP, hm3', hq3, ⟨fun q hq hne g hg => hap0'.out q hq hne g ?_⟩⟩
    have e1 := ho2'.out
    rw [e1] at hg
    rw [hm'.out]
    exact hg
  case rest =>
    obtain ⟨v5, m5, hm5, hq5, hap5⟩ := hcut
    have hpw := m5.out.fr.same p _ hWh'.out.blk (by simp [Still])
    obtain ⟨pw0, pw1, pw2⟩ := S3' hpw
    have pf2 := blk_frozen hpw 2
    have htp := tot_put S.L (a, c) (xs.eraseIdx n)
    rw [hxs'.out] at htp
    obtain ⟨t, ht⟩ : ∃ t, tot S.L = t := ⟨_, rfl⟩
    have hnx' := hnx.out
    have hlen : (xs.eraseIdx n).length + 1 = xs.length := by rw [List.length_eraseIdx, if_pos hnx']; omega
    have hres : ∀ w2, w2 = _ → IsLink ok w2 p ⟨S.parties, mput S.L (a, c) ((line S.L (a, c)).eraseIdx n)⟩ ∧ Fz ok W w2 := fun w2 e => by
      obtain ⟨r1, r2⟩ := hWh'.out.put m5.out hm5.out hq5.out hap5.out (t := wrap64 ((t : Int) - 1)) (by have := hl100'.out; unfold wrap64; omega) e
      rw [hxs'.out]
      exact ⟨⟨_, _, r1⟩, r2⟩
    have hres' := Aside0.mk hres
    rw [ht] at pw2
    clear hres hpw hnx' hlen htp ht
    go_wp2_with fail
    go_ret2
    obtain ⟨r1, r2⟩ := hres'.out _ rfl
    exact ⟨_, _, rfl, R_fr hWR'.out r2.fr (by simp [Kd.int, Kd.scalar]), r1, (Fz.of_below (hWB'.out) _).trans r2⟩
end Go.Proofs.Ytjghlomkimoeoaa.Lnk
