/- Where the document's links lie in memory; Total, walked. -/
import Derived.Test.YtjghlomkimoeoaaLinkRefPure
import Derived.Test.YtjghlomkimoeoaaLinkKeepLaw
namespace Go.Proofs.Ytjghlomkimoeoaa.Lnk
open Go.RowKit Go.Proofs.YtjghlomkimoeoaaW.PrintWords Go.Proofs.YtjghlomkimoeoaaW.PrintLast Go.Proofs.YtjghlomkimoeoaaW.PrintMore Go.Proofs.Ytjghlomkimoeoaa.PLinksPlay
open Amap Stp
set_option linter.unusedVariables false
set_option linter.unusedSimpArgs false
def kL : Kd (Key × List (List Int)) := Kd.pair (Kd.pair (Kd.int .i64) (Kd.int .i64)) (Kd.slice 25 kB)
theorem kL_open {w : World} {base : Nat} {ok : Nat → Prop} {x : Key × List (List Int)} {cs : List Value} (h : kL.M w base ok x cs) :
    ∃ A c, cs = [.int .i64 x.1.1, .int .i64 x.1.2, .slice A x.2.length c] ∧ Kd.R kB 25 w base ok (.slice A x.2.length c) x.2 := by
  obtain ⟨c0, c1, rfl, ⟨c2, c3, rfl, h2, h3⟩, v, rfl, hR⟩ := h
  obtain ⟨A, c, rfl⟩ := Kd.R_slice hR
  obtain rfl : c2 = _ := h2
  obtain rfl : c3 = _ := h3
  exact ⟨A, c, rfl, hR⟩
theorem kL_mk {w : World} {base : Nat} {ok : Nat → Prop} {x : Key × List (List Int)} {v : Value} (h : Kd.R kB 25 w base ok v x.2) : kL.M w base ok x [.int .i64 x.1.1, .int .i64 x.1.2, v] :=
  ⟨[.int .i64 x.1.1, .int .i64 x.1.2], [v], rfl, ⟨[.int .i64 x.1.1], [.int .i64 x.1.2], rfl, rfl, rfl⟩, v, rfl, h⟩
theorem kL_sz : kL.sz = 3 := rfl
structure RAt (ok : Nat → Prop) (w : World) (p : Nat) (R : RSt) (v : Value) : Prop where
  pk : ok p
  blk : w.heap[p]? = some (.cells #[.int .i64 R.parties, v] 134 (0, 0))
  row : Kd.R kL 138 w 0 (fun k => ok k ∧ k ≠ p) v R.L
/-- The document's links lie at p; all their blocks are ok. -/
def IsR (ok : Nat → Prop) (w : World) (p : Nat) (R : RSt) : Prop := ∃ v, RAt ok w p R v
theorem RAt.below {ok : Nat → Prop} {w w1 : World} {p : Nat} {R : RSt} {v : Value} (h : RAt ok w p R v) (hb : Below w.heap.size w w1) : RAt ok w1 p R v := ⟨h.pk, blk_below h.blk hb, Kd.R_below h.row hb⟩
theorem IsR.below {ok : Nat → Prop} {w w1 : World} {p : Nat} {R : RSt} (h : IsR ok w p R) (hb : Below w.heap.size w w1) : IsR ok w1 p R := by
  obtain ⟨v, h⟩ := h
  exact ⟨v, h.below hb⟩
/-- Another footprint. -/
theorem IsR.refoot {ok ok' : Nat → Prop} {w : World} {p : Nat} {R : RSt} (h : IsR ok w p R) (H : ∀ k, ok k → k < w.heap.size → ok' k) : IsR ok' w p R := by
  obtain ⟨v, h⟩ := h
  exact ⟨v, H p h.pk (blk_lt h.blk), h.blk, Kd.R_mono (Kd.R_bound h.row) (fun k hk => ⟨H k hk.1.1 hk.2.2.1, hk.1.2⟩)⟩
/-- Its blocks are as they were. -/
theorem IsR.move {ok : Nat → Prop} {w w1 : World} {p : Nat} {R : RSt} (h : IsR ok w p R) (H : ∀ k, ok k → k < w.heap.size → w1.heap[k]? = w.heap[k]?) : IsR ok w1 p R := by
  obtain ⟨v, h⟩ := h
  exact ⟨v, h.pk, (H p h.pk (blk_lt h.blk)).trans h.blk, Kd.R_mono (Kd.R_move (Kd.R_bound h.row) (fun k hk => H k hk.1.1 hk.2.2.1)) (fun k hk => hk.1)⟩
theorem IsLink.move {ok : Nat → Prop} {w w1 : World} {p : Nat} {S : LSt} (h : IsLink ok w p S) (H : ∀ k, ok k → k < w.heap.size → w1.heap[k]? = w.heap[k]?) : IsLink ok w1 p S := by
  obtain ⟨M, b, h⟩ := h
  exact ⟨M, b, h.pk, (H p h.pk (blk_lt h.blk)).trans h.blk, h.bk, h.map.move (H b h.bk h.map.lt), h.L, fun q hq => Kd.Q_mono (Kd.Q_move (Kd.Q_bound (h.rows q hq)) (fun k hk => H k hk.1 hk.2.2.1)) (fun k hk => hk.1), h.apart⟩
/-- Both frames of the document's functions. -/
structure Fy (ok : Nat → Prop) (w w' : World) : Prop where
  fr : Fr [134, 138] false 0 w w'
  kp : Kp ok w w'
theorem Fy.refl (ok : Nat → Prop) (w : World) : Fy ok w w := ⟨Fr.refl _ _ _ _, Kp.refl _ _⟩
theorem Fy.trans {ok : Nat → Prop} {w w1 w2 : World} (h : Fy ok w w1) (k : Fy ok w1 w2) : Fy ok w w2 := ⟨h.fr.trans k.fr, h.kp.trans k.kp⟩
theorem Fy.of_below {ok : Nat → Prop} {w w1 : World} (h : Below w.heap.size w w1) : Fy ok w w1 := ⟨Fr.of_below (Nat.zero_le _) h _ _, Kp.of_below h _⟩
theorem Fy.drewN {ok : Nat → Prop} {w w1 : World} (h : Fy ok w w1) (n : Nat) : Fy ok w (w1.drewN n) := ⟨h.fr.drewN n, ⟨pw_below_drewN h.kp.below n, h.kp.same⟩⟩
theorem Fy.size {ok : Nat → Prop} {w w1 : World} (h : Fy ok w w1) : w.heap.size ≤ w1.heap.size := h.fr.below.size
/-- A row of bytes stays. -/
theorem Fy.C {ok : Nat → Prop} {w w1 : World} {base : Nat} {ok' : Nat → Prop} {v : Value} {x : List Int} (h : Fy ok w w1) (hR : Kd.R (Kd.int .u8) 5 w base ok' v x) : Kd.R (Kd.int .u8) 5 w1 base ok' v x := R_fr hR h.fr (by simp [Kd.int, Kd.scalar])
/-- The row's value, and its elements' cells. -/
theorem RAt.form {ok : Nat → Prop} {w : World} {p : Nat} {R : RSt} {v : Value} (h : RAt ok w p R v) : ∃ A cap, v = .slice A R.L.length cap ∧ R.L.length ≤ cap := by
  obtain ⟨A, c, rfl, hc, _⟩ := Kd.R_reads h.row
  exact ⟨A, c, rfl, hc⟩
theorem RAt.elem {ok : Nat → Prop} {w : World} {p : Nat} {R : RSt} {A : Option Addr} {n cap : Nat} (h : RAt ok w p R (.slice A n cap)) {i : Nat} {q : Key × List (List Int)} (hq : R.L[i]? = some q) :
    ∃ g A2 c2, A = some ⟨g, 0, none⟩ ∧ w.cell? ⟨g, i * 3, none⟩ = some (.int .i64 q.1.1) ∧ w.cell? ⟨g, i * 3 + 1, none⟩ = some (.int .i64 q.1.2) ∧ w.cell? ⟨g, i * 3 + 2, none⟩ = some (.slice A2 q.2.length c2) ∧ w.frozen? ⟨g, i * 3 + 2, none⟩ = false ∧
      Kd.R kB 25 w 0 (fun k => (ok k ∧ k ≠ p) ∧ k ≠ g) (.slice A2 q.2.length c2) q.2 := by
  have hil : i < R.L.length := (List.getElem?_eq_some_iff.1 hq).1
  obtain ⟨g, cap', he, _, _, _⟩ := Kd.R_form h.row (by omega)
  cases he
  obtain ⟨c, hcl, hM, hcc, hfz⟩ := Kd.R_elem h.row ((0, 0), []) (i : Int) (by omega) (by omega)
  have hge : R.L.getD ((i : Int)).toNat ((0, 0), []) = q := by simp [List.getD_eq_getElem?_getD, hq]
  rw [hge] at hM
  obtain ⟨A2, c2, rfl, hR⟩ := kL_open hM
  rw [kL_sz, show ((i : Int)).toNat = i from by simp] at hcc hfz
  exact ⟨g, A2, c2, rfl, hcc 0 _ rfl, hcc 1 _ rfl, hcc 2 _ rfl, hfz 2, hR⟩
theorem tot_take (L : List (Key × List (List Int))) {i : Nat} {q : Key × List (List Int)} (h : L[i]? = some q) : tot (L.take (i + 1)) = tot (L.take i) + q.2.length := by
  induction L generalizing i with
  | nil => simp at h
  | cons x L ih =>
    cases i with
    | zero => simp at h; subst h; simp [tot]
    | succ i =>
      simp only [List.getElem?_cons_succ] at h
      simp only [List.take_succ_cons, tot, ih h]
      omega
theorem tot_le (L : List (Key × List (List Int))) (i : Nat) : tot (L.take i) ≤ tot L := by
  induction L generalizing i with
  | nil => simp [tot]
  | cons x L ih =>
    cases i with
    | zero => simp [tot]
    | succ i => simp only [List.take_succ_cons, tot]; have := ih i; omega
set_option maxHeartbeats 1000000 in
set_option maxRecDepth 100000 in
theorem RTotal_calls (R : RSt) (ht : tot R.L ≤ 1000) (hl : R.L.length ≤ 1000) (ok : Nat → Prop) (p : Nat) (w : World) (h : IsR ok w p R) : Calls Try.prog 39 #[.pointer (some ⟨p, 0, none⟩)] w fun e w' => e = .returned (.int .i64 (tot R.L : Nat)) ∧ w = w' := by
  obtain ⟨v, h⟩ := h
  obtain ⟨A, cap, rfl, hcap⟩ := h.form
  have p1 : w.cell? ⟨p, 1, none⟩ = some (.slice A R.L.length cap) := (blk_cell h.blk 1).trans rfl
  have h' := Aside0.mk h
  have htl : ∀ i, tot (R.L.take i) ≤ 1000 := fun i => Nat.le_trans (tot_le R.L i) ht
  have htl' := Aside0.mk htl
  clear h htl
  go_enter Try.func39, Try.ntmps39
  go_wp2_with fail
  go_loopg [10, 3] (R.L.length + 1) (fun kq v10 v3 w' => ∃ (i : Nat), v10 = .int .i64 (i : Int) ∧ v3 = .int .i64 ((tot (R.L.take i) : Nat) : Int) ∧ Aside0 (kq + i = R.L.length + 1) ∧ Aside0 (i ≤ R.L.length) ∧ w' = w)
  case atStart => exact ⟨0, rfl, rfl, ⟨by omega⟩, ⟨by omega⟩, rfl⟩
  case round =>
    obtain ⟨i, rfl, rfl, hk, hi, rfl⟩ := hrel
    by_cases hlt : i < R.L.length
    · have hd : decide ((i : Int) < (R.L.length : Int)) = true := decide_eq_true (by omega)
      have hd' : decide (i < R.L.length) = true := decide_eq_true hlt
      cases gk with
      | zero => exact absurd hk.out (by omega)
      | succ k1 =>
        have hlt' := Aside0.mk hlt
        obtain ⟨q, hq⟩ : ∃ q, R.L[i]? = some q := ⟨_, List.getElem?_eq_getElem hlt⟩
        obtain ⟨g, A2, c2, rfl, _, _, x2, _, _⟩ := h'.out.elem hq
        have hts := Aside0.mk (tot_take R.L hq)
        have hb1 := htl'.out i
        have hb2 := htl'.out (i + 1)
        rw [tot_take R.L hq] at hb2
        obtain ⟨ql, hql⟩ : ∃ ql, q.2.length = ql := ⟨_, rfl⟩
        rw [hql] at x2 hts hb2
        clear hq hql
        go_wp2_with fail
        go_roundg k1
        case measure => have := hk.out; omega
        case rel => exact ⟨i + 1, by go_num, by rw [hts.out]; go_num, ⟨by have := hk.out; omega⟩, ⟨by have := hlt'.out; omega⟩, rfl⟩
    · have hd : decide ((i : Int) < (R.L.length : Int)) = false := decide_eq_false (by omega)
      have hd' : decide (i < R.L.length) = false := decide_eq_false hlt
      obtain rfl : i = R.L.length := by have := hi.out; omega
      go_wp2
      go_ret
      exact ⟨by rw [List.take_length]; rfl, rfl⟩
end Go.Proofs.Ytjghlomkimoeoaa.Lnk
