/- Turn, walked. -/
import Derived.Test.YtjghlomkimoeoaaLinkTake
import Derived.Test.YtjghlomkimoeoaaKept
namespace Go.Proofs.Ytjghlomkimoeoaa.Lnk
open Go.RowKit Go.Proofs.YtjghlomkimoeoaaW.PrintWords Go.Proofs.YtjghlomkimoeoaaW.PrintLast Go.Proofs.YtjghlomkimoeoaaW.PrintMore Go.Proofs.Ytjghlomkimoeoaa.PLinksPlay
open Amap Stp
set_option linter.unusedVariables false
set_option linter.unusedSimpArgs false
/-- The links with one line written, no letter more. -/
theorem LinkAt.put0 {ok : Nat → Prop} {W w1 : World} {p : Nat} {S : LSt} {M : List (Key × Ln)} {b : Nat} (h : LinkAt ok W p S M b) {k : Key} (m : Mid ok W M k w1) {v : Value} {xs : List (List Int)} (hm : MapIs ekey lval domK w1 b (mput M k (v, xs)))
    (hv : Kd.Q kB 25 w1 0 ok v xs) (hap : ∀ q ∈ M, q.1 ≠ k → ∀ g, v.ownBlock = some g → q.2.1.ownBlock ≠ some g) (ht : xs.length = (line S.L k).length) :
    LinkAt ok w1 p ⟨S.parties, mput S.L k xs⟩ (mput M k (v, xs)) b ∧ Fz ok W w1 := by
  have hp1 : w1.heap[p]? = some (.cells #[.int .i64 S.parties, .map (some b), .int .i64 (tot S.L : Nat)] 115 (0, 0)) := m.fr.same p _ h.blk (by simp [Still])
  obtain ⟨es, clock, hb, _, _, hn, _⟩ := h.map
  have htt : tot (mput S.L k xs) = tot S.L := by have := tot_put S.L k xs; omega
  refine ⟨⟨h.pk, ?_, h.bk, hm, ?_, ?_, ?_⟩, ⟨m.fr.mono (T' := [115, 25]) (by simp) (fun h => h), m.kp⟩⟩
  · show w1.heap[p]? = some (.cells #[.int .i64 S.parties, .map (some b), .int .i64 (tot (mput S.L k xs) : Nat)] 115 (0, 0))
    rw [htt]; exact hp1
  · show mput S.L k xs = _
    rw [map_put, h.L]
  · intro q hq
    rcases mem_put hn hq with rfl | ⟨hq, hne⟩
    · exact hv
    · exact m.oth q hq hne
  · intro q hq q' hq' hne g hg
    rcases mem_put hn hq with rfl | ⟨hq, hnk⟩
    · rcases mem_put hn hq' with rfl | ⟨hq', hnk'⟩
      · exact absurd rfl hne
      · exact hap q' hq' hnk' g hg
    · rcases mem_put hn hq' with rfl | ⟨hq', hnk'⟩
      · intro e; exact hap q hq hnk g e hg
      · exact h.apart q hq q' hq' hne g hg
def turn (S : LSt) (k : Key) : LSt × Bool := match line S.L k with
  | x :: y :: r => (⟨S.parties, mput S.L k (y :: r ++ [x])⟩, true)
  | _ => (S, false)
set_option maxHeartbeats 1000000 in
set_option maxRecDepth 100000 in
theorem Turn_no (S : LSt) (a c : Int) (hk : domK (a, c)) (hx : (line S.L (a, c)).length < 2) (ok : Nat → Prop) (p : Nat) (w : World) (h : IsLink ok w p S) :
    Calls Try.prog 37 #[.pointer (some ⟨p, 0, none⟩), .int .i64 a, .int .i64 c] w fun e w' => e = .returned (.bool false) ∧ w = w' := by
  have hcnt := Count_calls S a c hk ok p w h
  obtain ⟨n, hn⟩ : ∃ n, (line S.L (a, c)).length = n := ⟨_, rfl⟩
  rw [hn] at hx hcnt
  have hcnt' := Aside0.mk hcnt
  have hd : decide ((n : Int) < 2) = true := decide_eq_true (by omega)
  clear hn h hcnt
  go_enter Try.func37, Try.ntmps37
  go_wp2_with (first
    | (go_at_call 22; (with_reducible refine hcnt'.out.mono ?_); rintro e w1 ⟨rfl, rfl⟩)
    | fail)
  go_ret
  exact ⟨rfl, rfl⟩
theorem M_grow {w w1 : World} {ok : Nat → Prop} {x : List Int} {cs : List Value} (h : kB.M w 0 ok x cs) (hb : Below w.heap.size w w1) : kB.M w1 0 ok x cs :=
  Kd.M_mono kB (fun k hk => hk.1) (Kd.M_move kB (fun k hk => hb.block k hk.2.2.1) (Kd.M_bound kB h))
theorem Q_head {w : World} {ok : Nat → Prop} {v : Value} {x : List Int} {r : List (List Int)} (h : Kd.Q kB 25 w 0 ok v (x :: r)) :
    ∃ ad cap A2 c2, v = .slice (some ad) (r.length + 1) cap ∧ w.cell? ad = some (.slice A2 x.length c2) ∧ kB.M w 0 (fun k => ok k ∧ some k ≠ v.ownBlock) x [.slice A2 x.length c2] ∧
      ∃ v1, (∀ W : World, (Instr.slice 117 v (some (.int .i64 1)) none none).run Try.prog W = .ok v1 W) ∧ Kd.Q kB 25 w 0 ok v1 r ∧ v1.ownBlock = v.ownBlock ∧ (1 ≤ r.length → ad = ⟨ad.block, ad.off, none⟩ ∧ v1 = .slice (some ⟨ad.block, ad.off + 1, none⟩) r.length (cap - 1)) := by
  have h' := h
  obtain ⟨h0, inner, hown, hr⟩ := h
  obtain ⟨A, cap, hv, hnc⟩ := q_slice hown
  subst hv
  have hsz : kB.sz = 1 := rfl
  have hil : inner.length = r.length + 1 := by have := hr.1; rw [hsz] at this; simpa using this
  obtain ⟨ad, rfl, hcell⟩ := q_cells hown (by simp)
  obtain ⟨c, hc⟩ : ∃ c, inner[0]? = some c := ⟨_, List.getElem?_eq_getElem (by omega)⟩
  have hM := hr.2 0 x rfl
  rw [hsz, Nat.mul_one, take1, hc] at hM
  have hM2 := hM
  obtain ⟨v, e, hR⟩ := hM2
  obtain ⟨A2, c2, rfl⟩ := Kd.R_slice hR
  simp only [Option.toList_some, List.cons.injEq, and_true] at e
  subst e
  have hcl := hcell 0 _ hc
  rw [show ad.add 0 = ad from by unfold Addr.add; simp] at hcl
  obtain ⟨i0, hi0, hz⟩ := Option.map_eq_some_iff.1 info25
  simp only [Prod.mk.injEq] at hz
  simp only [List.length_cons] at *
  have hcut := cut_from (P := Try.prog) 117 25 .i64 Try.underlying117 hi0 1 hz.2.1 (some ad) (r.length + 1) cap 1 (by omega) (by omega)
  have hq1 := Kd.Q_drop (k := 1) h' (by simp)
  rw [hsz] at hq1
  refine ⟨ad, cap, A2, c2, rfl, hcl, hM, _, hcut, hq1, by split <;> rfl, fun hr1 => ?_⟩
  obtain ⟨_, hform⟩ := hown
  rcases hform with ⟨h9, _⟩ | ⟨g, off, cap', cur, hv, _⟩
  · simp at h9
  · injection hv with e1 _ e3
    injection e1 with e1
    subst e1
    refine ⟨rfl, ?_⟩
    rw [if_neg (by simp; omega)]
    simp [Addr.add]
theorem keepS4 {W cur : World} {p t : Nat} {A B C u : Value} {a c : Int} {ad : Addr} (hp : W.heap[p]? = some (.cells #[A, B, C] 115 (0, 0))) (ht : W.heap[t]? = some (.cells #[.int .i64 a, .int .i64 c] 116 (0, 0))) (had : W.cell? ad = some u) (hb : Below W.heap.size W cur) :
    cur.cell? ⟨p, 1, none⟩ = some B ∧ cur.cell? ⟨t, 0, none⟩ = some (.int .i64 a) ∧ cur.cell? ⟨t, 1, none⟩ = some (.int .i64 c) ∧ cur.cell? ad = some u := by
  obtain ⟨h1, h2, h3⟩ := S3 (blk_below hp hb) (blk_below ht hb)
  exact ⟨h1, h2, h3, (hb.cell (World.block_lt_of_cell? _ _ had)).trans had⟩
theorem keepS5 {W cur : World} {p t : Nat} {A B C u : Value} {a c : Int} {ad : Addr} (hp : W.heap[p]? = some (.cells #[A, B, C] 115 (0, 0))) (ht : W.heap[t]? = some (.cells #[.int .i64 a, .int .i64 c] 116 (0, 0))) (had : W.cell? ad = some u) (hb : Below W.heap.size W cur ∨ (Fr [25] true 0 W cur ∧ cur.cell? ad = some u)) :
    cur.cell? ⟨p, 1, none⟩ = some B ∧ cur.cell? ⟨t, 0, none⟩ = some (.int .i64 a) ∧ cur.cell? ⟨t, 1, none⟩ = some (.int .i64 c) ∧ cur.cell? ad = some u := by
  rcases hb with hb | ⟨hf, h4⟩
  · exact keepS4 hp ht had hb
  · obtain ⟨h1, h2, h3⟩ := S3 (hf.same _ _ hp (by simp [Still])) (hf.same _ _ ht (by simp [Still]))
    exact ⟨h1, h2, h3, h4⟩
theorem cell_before {W w4 : World} {o : Obj} {ad : Addr} {u v1 : Value} {m cap : Nat} (hc : W.cell? ad = some u) (had : ad = ⟨ad.block, ad.off, none⟩) (hv : v1 = .slice (some ⟨ad.block, ad.off + 1, none⟩) m cap)
    (hk : ∀ g q n cap, v1 = .slice (some ⟨g, q, none⟩) n cap → 0 < n → ∀ j, j < q + n * kB.sz → w4.cell? ⟨g, j, none⟩ = (W.drew.alloc o).cell? ⟨g, j, none⟩) (hm : 0 < m) : w4.cell? ad = some u := by
  have h := hk _ _ _ _ hv hm ad.off (by omega)
  rw [← had] at h
  rw [h]
  have hb : Below W.heap.size W (W.drew.alloc o) := below_alloc (below_drew (Below.refl _ _)) _
  exact (hb.cell (World.block_lt_of_cell? _ _ hc)).trans hc
theorem cell_map {w w1 : World} {b : Nat} {es : Array MapEntry} {cl : Nat} {ad : Addr} {u : Value} (hb : w.heap[b]? = some (.map es cl)) (hg : w.grownBy w1 (some b)) (hc : w.cell? ad = some u) : w1.cell? ad = some u :=
  (World.cell?_of_block (hg.block ad.block (World.block_lt_of_cell? _ _ hc) (fun e => cell_no_map hb hc (by injection e)))).trans hc
set_option maxHeartbeats 4000000 in
set_option maxRecDepth 100000 in
theorem Turn_yes (S : LSt) (a c : Int) (hk : domK (a, c)) (x : List Int) (r : List (List Int)) (hx : line S.L (a, c) = x :: r) (hr1 : 1 ≤ r.length) (hs : Small S) (ok : Nat → Prop) (p : Nat) (w : World) (hok : ∀ k, w.heap.size ≤ k → ok k) (h : IsLink ok w p S) :
    Calls Try.prog 37 #[.pointer (some ⟨p, 0, none⟩), .int .i64 a, .int .i64 c] w fun e w' => e = .returned (.bool true) ∧ IsLink ok w' p ⟨S.parties, mput S.L (a, c) (r ++ [x])⟩ ∧ Fz ok w w' := by
  have hcnt := Count_calls S a c hk ok p w h
  have hlen : (line S.L (a, c)).length = r.length + 1 := by rw [hx]; rfl
  rw [hlen] at hcnt
  have hcnt' := Aside0.mk hcnt
  have h100 : r.length + 1 ≤ 100 := by have := (hs.line (a, c)).1; omega
  have hd : decide (((r.length + 1 : Nat) : Int) < 2) = false := decide_eq_false (by omega)
  have hd' : decide ((r.length : Int) + 1 < 2) = false := decide_eq_false (by omega)
  have h' := Aside0.mk h
  have hk' := Aside0.mk hk
  have hx' := Aside0.mk hx
  have hlen' := Aside0.mk hlen
  clear hcnt h hk hx hs hlen
  go_enter Try.func37, Try.ntmps37
  go_upto_region 4 with (first
    | (go_at_call 22; (with_reducible refine hcnt'.out.mono ?_); rintro e w1 ⟨rfl, rfl⟩)
    | fail)
  refine wp_world (fun W hW => ?_)
  have hWB : Below w.heap.size w W := by rw [hW]; exact below_alloc (Below.refl _ _) _
  have hWt : W.heap[w.heap.size]? = some (.cells #[.int .i64 a, .int .i64 c] 116 (0, 0)) := by rw [hW]; exact blk_new _ _
  obtain ⟨M, b, hWh⟩ := h'.out.below hWB
  have hWok : ∀ k, W.heap.size ≤ k → ok k := fun k hk => hok k (Nat.le_trans hWB.size hk)
  obtain ⟨v0, hv0⟩ : ∃ v0, mlook M (a, c) = some (v0, x :: r) := by
    have h9 := hWh.line_eq (a, c)
    rw [hx'.out] at h9
    cases hl : mlook M (a, c) with
    | none => rw [hl] at h9; cases h9
    | some y => rw [hl] at h9; exact ⟨y.1, by rw [h9]; rfl⟩
  have hq0 : Kd.Q kB 25 W 0 ok v0 (x :: r) := hWh.rows _ (mlook_mem hv0)
  have hap0 : ∀ q ∈ M, q.1 ≠ (a, c) → ∀ g, v0.ownBlock = some g → q.2.1.ownBlock ≠ some g := fun q hq hne g hg => hWh.apart _ (mlook_mem hv0) q hq (fun e => hne e.symm) g hg
  obtain ⟨ad, cap, A2, c2, rfl, hcl, hM, v1, hcut, hq1, hown1, hf1⟩ := Q_head hq0
  obtain ⟨had, hv1⟩ := hf1 hr1
  have had' := Aside0.mk had
  have hv1' := Aside0.mk hv1
  clear had hv1 hf1
  have hz : (zeroValue 117).run Try.prog W.drew = .ok (.slice none 0 0) W.drew := by kernel_rfl
  have hl := (hWh.map.move (w' := W.drew) rfl).lookup encK Try.underlying113 hz hk'.out false
  simp only [Bool.false_eq_true, if_false] at hl
  have hz2 : (zeroValue 117).run Try.prog (W.alloc (.cells #[.slice A2 x.length c2] 25)).drew = .ok (.slice none 0 0) (W.alloc (.cells #[.slice A2 x.length c2] 25)).drew := by kernel_rfl
  have hl2 := (hWh.map.move (w' := (W.alloc (.cells #[.slice A2 x.length c2] 25)).drew) (Below.heap_alloc _ _ _ hWh.map.lt)).lookup encK Try.underlying113 hz2 hk'.out false
  simp only [Bool.false_eq_true, if_false] at hl2
  rw [hv0] at hl hl2
  simp only [Option.map_some, Option.getD_some] at hl hl2
  unfold ekey lval at hl hl2
  simp only [] at hl hl2
  obtain ⟨es0, cl0, hb0, _⟩ := id hWh.map
  have hap1 : ∀ q ∈ M, q.1 ≠ (a, c) → ∀ g, v1.ownBlock = some g → q.2.1.ownBlock ≠ some g := fun q hq hne g hg => hap0 q hq hne g (by rw [← hown1]; exact hg)
  rw [← hown1] at hM
  have hWB' := Aside0.mk hWB
  have hWt' := Aside0.mk hWt
  have hWh' := Aside0.mk hWh
  have hb0' := Aside0.mk hb0
  have hq1' := Aside0.mk hq1
  have hap1' := Aside0.mk hap1
  have hcl' := Aside0.mk hcl
  have hM' := Aside0.mk hM
  have hWok' := Aside0.mk hWok
  have m0 := Aside0.mk (Mid.start hWh (a, c))
  clear hW hWB hWt hWh hb0 hq1 hap1 hq0 hap0 hM hv0 hz hz2 hown1 hWok
  go_cut [] (fun wx => ∃ v, Aside0 (Mid ok W M (a, c) wx) ∧ Aside0 (MapIs ekey lval domK wx b (mput M (a, c) (v, r ++ [x]))) ∧ Aside0 (Kd.Q kB 25 wx 0 ok v (r ++ [x])) ∧ Aside0 (∀ q ∈ M, q.1 ≠ (a, c) → ∀ g, v.ownBlock = some g → q.2.1.ownBlock ≠ some g))
  case first =>
    obtain ⟨pp0, pt0, pt1⟩ := S3 hWh'.out.blk hWt'.out
    go_region_held3 (fun w' => w'.cell? ⟨p, 1, none⟩ = some (.map (some b)) ∧ w'.cell? ⟨w.heap.size, 0, none⟩ = some (.int .i64 a) ∧ w'.cell? ⟨w.heap.size, 1, none⟩ = some (.int .i64 c) ∧ w'.cell? ad = some (.slice A2 x.length c2))
      (refine keepS5 hWh'.out.blk hWt'.out hcl'.out (by first | (refine .inl ?_; (repeat (first | (with_reducible exact Below.refl _ _) | (with_reducible refine below_drew ?_) | (with_reducible refine below_alloc ?_ _))); done) | (refine .inr ⟨?_, ?_⟩; (repeat (first | (with_reducible exact mAP.out.fr) | (with_reducible exact mUP.out.fr) | (with_reducible refine Fr.drew ?_))); (first | (with_reducible exact hc4.out) | (with_reducible exact hc5.out)); done)))
      (first
        | ((refine Stp.Q_append_at2 kB 0 (by rfl) (.tmp 27) (.tmp 36) 117 25 (.slice none 0 0) 24 (by rfl) Try.underlying117 info25 rfl (by decide) (by omega) v1 r x [.slice A2 x.length c2] ok (fun k => ok k ∧ some k ≠ v1.ownBlock) ⟨W.heap.size, 0, none⟩ 1 (by rfl) (by rfl) (M_grow hM'.out (by repeat (first | (with_reducible exact Below.refl _ _) | (with_reducible refine below_drew ?_) | (with_reducible refine below_alloc ?_ _)))) (World.news_of_block (cs := #[.slice A2 x.length c2]) (t := 25) (fr := (0, 0)) (by first | exact blk_new _ _ | exact blk_drew (blk_new _ _) | exact blk_new_at (by simp))) (fun k hk => hk) (fun k hk => hWok'.out k (by have := hk; simp at this; omega)) (Kd.Q_below hq1'.out (by repeat (first | (with_reducible exact Below.refl _ _) | (with_reducible refine below_drew ?_) | (with_reducible refine below_alloc ?_ _)))) (by omega) (by omega) ?_); intro v4 w4 hq4 hg4 hat4 hkp4
           have hc4 := Aside0.mk (cell_before hcl'.out had'.out hv1'.out hkp4 (by omega))
           have mAL : Mid ok W M (a, c) (W.drew.alloc (.cells #[.slice A2 x.length c2] 25)) := m0.out.drew.alloc _
           have mAP := Aside0.mk (mAL.row (Kd.Q_below hq1'.out (below_alloc (below_drew (Below.refl _ _)) _)) hap1'.out hg4)
           have hb3 : (W.drew.alloc (.cells #[.slice A2 x.length c2] 25)).heap[b]? = some (.map es0 cl0) := blk_alloc hb0'.out _
           have hb4 : w4.heap[b]? = some (.map es0 cl0) := blk_grown hb3 hg4 (fun e => by
             obtain ⟨cells, hc⟩ := Kd.Q_typed hq1'.out b e.symm
             have := hb0'.out
             rw [hc] at this
             cases this)
           obtain ⟨w5, hrun, hm5, hg5⟩ := (hWh'.out.map.move (w' := w4) (hb4.trans hb0'.out.symm)).update encK Try.underlying113 hk'.out ((v4, r ++ [x]) : Ln)
           have hc5 := Aside0.mk (cell_map hb4 hg5 hc4.out)
           have mUP := Aside0.mk (mAP.out.map hWh'.out.bk hb4 hg5)
           have hq5 := Aside0.mk (Q_map hq4 hb4 hg5)
           have hm5' := Aside0.mk hm5
           have hat4' := Aside0.mk hat4
           unfold ekey lval at hrun
           simp only [] at hrun
           clear hq4 hg4 hb4 hb3 hm5 hg5 hat4 mAL hkp4)
        | fail)
    all_goals
      go_wp2_with fail
      go_meet
      refine ⟨_, mUP, hm5', hq5, ⟨fun q hq hne g hg => ?_⟩⟩
      rcases hat4'.out with e | ⟨g1, e, hg1⟩
      · exact hap1'.out q hq hne g (e ▸ hg)
      · rw [e] at hg
        cases hg
        intro e2
        have := Kd.Q_lt (hWh'.out.rows q hq) _ e2
        simp at hg1
        omega
  case rest =>
    obtain ⟨v5, m5, hm5, hq5, hap5⟩ := hcut
    obtain ⟨r1, r2⟩ := hWh'.out.put0 m5.out hm5.out hq5.out hap5.out (by rw [hlen'.out]; simp)
    have hr1' := Aside0.mk r1
    have hr2' := Aside0.mk r2
    clear r1 r2
    go_wp2_with fail
    go_ret
    exact ⟨rfl, ⟨_, _, hr1'.out⟩, (Fz.of_below hWB'.out _).trans hr2'.out⟩
end Go.Proofs.Ytjghlomkimoeoaa.Lnk
