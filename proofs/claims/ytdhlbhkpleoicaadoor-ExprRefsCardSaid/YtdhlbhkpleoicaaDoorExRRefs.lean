/- The names of an expression, as the document answers them. -/
import Derived.Test.YtdhlbhkpleoicaaDoorExRForm
import Derived.Test.YtdhlbhkpleoicaaDoorExNames
namespace Go.Proofs.YtdhlbhkpleoicaaDoor.Exp
open Go.RowKit Go.Proofs.YtdhlbhkpleoicaaDoorW.PrintWords Go.Proofs.YtdhlbhkpleoicaaDoorW.PrintLast Go.Proofs.YtdhlbhkpleoicaaDoorW.PrintMore Go.Proofs.YtdhlbhkpleoicaaDoor.PExprEvals
open Frm
set_option linter.unusedVariables false
set_option linter.unusedSimpArgs false
set_option maxRecDepth 100000
theorem nms_len2 : ∀ x, (nms x).length ≤ tot x := by
  intro x
  induction x <;> simp only [nms, tot, List.length_nil, List.length_cons, List.length_append] <;> omega
theorem fold_adds_len : ∀ (ns k : List ByteArray), (ns.foldl adds k).length ≤ k.length + ns.length
  | [], k => by simp
  | s :: ns, k => by
    rw [List.foldl_cons]
    have h := fold_adds_len ns (adds k s)
    have h2 := adds_len k s
    simp only [List.length_cons]
    omega
theorem flat_len : ∀ xs : List Ex, (xs.flatMap nms).length ≤ (xs.map tot).sum
  | [] => by simp
  | x :: xs => by
    have h := flat_len xs
    have h2 := nms_len2 x
    simp only [List.flatMap_cons, List.length_append, List.map_cons, List.sum_cons]
    omega
theorem part_bound (xs : List Ex) (i : Nat) (h : i < xs.length) : ((xs.take i).flatMap nms).length + tot xs[i] ≤ (xs.map tot).sum := by
  have h1 := flat_len (xs.take i)
  have h2 : (xs.map tot).sum = ((xs.take i).map tot).sum + (tot xs[i] + ((xs.drop (i + 1)).map tot).sum) := by
    conv => lhs; rw [← List.take_append_drop i xs, List.drop_eq_getElem_cons h]
    rw [List.map_append, List.sum_append, List.map_cons, List.sum_cons]
  omega
theorem flat_step (xs : List Ex) (i : Nat) (h : i < xs.length) (L : List ByteArray) : ((xs.take (i + 1)).flatMap nms).foldl adds L = (nms xs[i]).foldl adds (((xs.take i).flatMap nms).foldl adds L) := by
  rw [List.take_succ_eq_append_getElem h, List.flatMap_append, List.foldl_append]
  simp
/-- What may turn while the names are put together. -/
def Old (P : Nat → Prop) (w : World) : Nat → Prop := fun k => P k ∧ k < w.heap.size
def RrC (e : Ex) : Prop := ∀ (A : Option Addr) (c : Nat) (P : Nat → Prop) (u : Value) (L : List ByteArray) (w0 w : World), Below w0.heap.size w0 w → Kd.C k24 w0 A (toN e).f3.length (toN e).f3 → (toN e).f3.length ≤ c → Kd.R Kd.string 9 w w0.heap.size P u L → L.length + tot e ≤ 1000 →
  Calls Tryd.prog 31 #[nv e A c, u] w fun e' w' => ∃ v : Value, e' = .returned v ∧ Kd.R Kd.string 9 w' w0.heap.size (fun k => Old P w k ∨ w.heap.size ≤ k) v ((nms e).foldl adds L) ∧ Below w0.heap.size w0 w' ∧ Kept w w' (Old P w)
theorem R_old {w : World} {base : Nat} {P : Nat → Prop} {u : Value} {L : List ByteArray} (h : Kd.R Kd.string 9 w base P u L) : Kd.R Kd.string 9 w base (Old P w) u L :=
  Kd.R_mono (Kd.R_bound h) (fun k hk => ⟨hk.1, hk.2.2.1⟩)
set_option maxHeartbeats 4000000 in
theorem rrefs_parts (k n : Int) (s : ByteArray) (xs : List Ex) (hl : xs.length ≤ 2) (hk : k = 0 ∨ k = 1 ∨ k = 3 ∨ k = 4 ∨ k = 5) (ih : ∀ y ∈ xs, RrC y) (A : Option Addr) (c : Nat) (P : Nat → Prop) (u : Value) (L : List ByteArray) (w0 w : World) (hB : Below w0.heap.size w0 w) (hC : Kd.C k24 w0 A (xs.map toN).length (xs.map toN)) (hc : (xs.map toN).length ≤ c) (hR : Kd.R Kd.string 9 w w0.heap.size P u L) (hb : L.length + (xs.map tot).sum ≤ 1000) :
    Calls Tryd.prog 31 #[.agg #[.int .i64 k, .int .i64 n, .string s, .slice A (xs.map toN).length c], u] w fun e' w' => ∃ v : Value, e' = .returned v ∧ Kd.R Kd.string 9 w' w0.heap.size (fun k => Old P w k ∨ w.heap.size ≤ k) v ((xs.flatMap nms).foldl adds L) ∧ Below w0.heap.size w0 w' ∧ Kept w w' (Old P w) := by
  have hC' := Aside0.mk hC
  have hR' := Aside0.mk (R_old hR)
  have hB' := Aside0.mk hB
  have ih' := Aside0.mk ih
  have hbd := Aside0.mk hb
  have hE : Aside0 (∀ i, (hi : i < xs.length) → ∃ y ∈ xs, rd_T24 (xs.map toN) (i : Int) = toN y ∧ ((xs.take (i + 1)).flatMap nms).foldl adds L = (nms y).foldl adds (((xs.take i).flatMap nms).foldl adds L) ∧ (((xs.take i).flatMap nms).foldl adds L).length + tot y ≤ 1000) :=
    ⟨fun i hi => ⟨xs[i], List.getElem_mem hi, rd_map xs i hi, flat_step xs i hi L, by have h1 := part_bound xs i hi; have h2 := fold_adds_len ((xs.take i).flatMap nms) L; omega⟩⟩
  obtain ⟨m, hm⟩ : ∃ m, xs.map toN = m := ⟨_, rfl⟩
  have hml : m.length = xs.length := by rw [← hm]; simp
  rw [hm] at hC' hc hE ⊢
  clear hC hR hB ih hm hb
  have hml' := Aside0.mk hml
  have hm2 : m.length ≤ 2 := by rw [hml]; exact hl
  clear hml
  rcases hk with rfl | rfl | rfl | rfl | rfl
  all_goals
    go_enter Tryd.func31, Tryd.ntmps31
    go_upto_region 1 with fail
    refine wp_world (fun W hW => ?_)
    first
      | (have hX : W.heap[w.heap.size]? = some (.cells #[.int .i64 0, .int .i64 n, .string s, .slice A m.length c] 24 (0, 0)) := by rw [hW]; exact blk_new _ _)
      | (have hX : W.heap[w.heap.size]? = some (.cells #[.int .i64 1, .int .i64 n, .string s, .slice A m.length c] 24 (0, 0)) := by rw [hW]; exact blk_new _ _)
      | (have hX : W.heap[w.heap.size]? = some (.cells #[.int .i64 3, .int .i64 n, .string s, .slice A m.length c] 24 (0, 0)) := by rw [hW]; exact blk_new _ _)
      | (have hX : W.heap[w.heap.size]? = some (.cells #[.int .i64 4, .int .i64 n, .string s, .slice A m.length c] 24 (0, 0)) := by rw [hW]; exact blk_new _ _)
      | (have hX : W.heap[w.heap.size]? = some (.cells #[.int .i64 5, .int .i64 n, .string s, .slice A m.length c] 24 (0, 0)) := by rw [hW]; exact blk_new _ _)
    have hBW : Below w.heap.size w W := by rw [hW]; exact below_alloc (Below.refl _ _) _
    have hsz : W.heap.size = w.heap.size + 1 := by rw [hW]; simp
    have hsz' := Aside0.mk hsz
    have hX' := Aside0.mk hX
    have hBW' := Aside0.mk hBW
    have hR1 := Aside0.mk (Kd.R_below hR'.out hBW)
    have hB1 := Aside0.mk (below_step hB'.out hBW)
    obtain ⟨b, hb⟩ : ∃ b, w.heap.size = b := ⟨_, rfl⟩
    rw [hb] at hX'
    rw [hb]
    have hb' := Aside0.mk hb
    clear hX hBW hW hb hsz
    obtain ⟨x0, x1, x2, x3, xl⟩ := cells4n hX'.out
    go_wp2_with fail
    go_loopg [1, 16] (m.length + 1) (fun kq v1 v16 w' => ∃ (i : Nat) (u1 : Value), u1 = v1 ∧ v16 = .int .i64 (i : Int) ∧ Aside0 (kq + i = m.length + 1) ∧ Aside0 (i ≤ m.length) ∧ Aside0 (Kd.R Kd.string 9 w' w0.heap.size (fun k => Old P w k ∨ W.heap.size ≤ k) u1 (((xs.take i).flatMap nms).foldl adds L)) ∧ Aside0 (Below w0.heap.size w0 w') ∧ Aside0 (Kept W w' (Old P w)))
    case atStart => exact ⟨0, _, rfl, rfl, ⟨by omega⟩, ⟨by omega⟩, ⟨Kd.R_mono hR1.out (fun k hk => .inl hk)⟩, hB1, ⟨Kept.refl _ _⟩⟩
    case round =>
      obtain ⟨i, u1, rfl, rfl, hk, hi, hx, hB2, hK⟩ := hrel
      clear x0 x1 x2 x3 xl
      have hX2 : wr.heap[b]? = some _ := (hK.out.2 b (blk_lt hX'.out) (fun h => by have := h.2; have := hb'.out; omega)).trans hX'.out
      obtain ⟨x0, x1, x2, x3, xl⟩ := cells4n hX2
      clear hX2
      cases gk with
      | zero => exact absurd hk.out (by have := hi.out; omega)
      | succ k1 =>
        by_cases hlt : i < m.length
        · have hd : decide ((i : Int) < (m.length : Int)) = true := decide_eq_true (by omega)
          have hd' : decide (i < m.length) = true := decide_eq_true hlt
          have p1 : 0 ≤ (i : Int) := by omega
          have q1 : (i : Int) < (m.length : Int) := by omega
          obtain ⟨y, hy, hrd, hst, hbb⟩ := hE.out i (by rw [← hml'.out]; exact hlt)
          obtain ⟨ad, A3, k3, e1, z0, z1, z2, z3, hk3, hC3⟩ := at_T24 hC'.out (i : Int) p1 q1
          cases e1
          rw [hrd] at z0 z1 z2 z3 hk3 hC3
          rw [show ((i : Int)).toNat = i from by simp] at z0 z1 z2 z3
          have y0 := keepx z0 hB2.out
          have y1 := keepx z1 hB2.out
          have y2 := keepx z2 hB2.out
          have y3 := keepx z3 hB2.out
          have hcall := Aside0.mk (ih'.out y hy A3 k3 _ u1 _ w0 wr hB2.out hC3 hk3 hx.out hbb)
          have hst' := Aside0.mk hst
          have hlt' := Aside0.mk hlt
          unfold nv at hcall
          clear hy hrd hst hbb hC3 z0 z1 z2 z3
          go_wp2_with (first
            | (go_at_call 31; (with_reducible refine hcall.out.mono ?_); rintro e w5 ⟨v, rfl, hR5, hB5, hK5⟩; have hR5' : Aside0 (Kd.R Kd.string 9 w5 w0.heap.size (fun k => Old P w k ∨ W.heap.size ≤ k) v (((xs.take (i + 1)).flatMap nms).foldl adds L)) := ⟨by rw [hst'.out]; exact Kd.R_mono hR5 (fun k hk => hk.elim (fun h => h.1) (fun h => .inr (Nat.le_trans hK.out.1 h)))⟩; have hB5' := Aside0.mk hB5; have hK5' : Aside0 (Kept W w5 (Old P w)) := ⟨hK.out.then_ hK5 (fun k h => h.1)⟩; clear hR5 hB5 hK5)
            | fail)
          go_roundg k1
          case measure => have := hk.out; omega
          case rel => exact ⟨i + 1, v, rfl, by go_num, ⟨by have := hk.out; omega⟩, ⟨by have := hlt'.out; omega⟩, hR5', hB5', hK5'⟩
        · have hd : decide ((i : Int) < (m.length : Int)) = false := decide_eq_false (by omega)
          have hd' : decide (i < m.length) = false := decide_eq_false hlt
          have hle : xs.length ≤ i := by have := hml'.out; omega
          have hx' : Aside0 (Kd.R Kd.string 9 wr w0.heap.size (fun k => Old P w k ∨ w.heap.size ≤ k) u1 ((xs.flatMap nms).foldl adds L)) := ⟨by
            have h := hx.out
            rw [List.take_of_length_le hle] at h
            exact Kd.R_mono h (fun k hk => hk.elim (fun h => .inl h) (fun h => .inr (Nat.le_trans hBW'.out.size h)))⟩
          clear hle
          go_wp2
          go_ret
          exact ⟨_, rfl, by have h := hx'.out; first | exact h | (rw [hb'.out] at h; exact h), hB2.out, (Kept.of_below hBW'.out (Old P w)).then_ hK.out (fun k h => .inl h)⟩
set_option maxHeartbeats 4000000 in
theorem rrefs_ref (n : Int) (s : ByteArray) (A : Option Addr) (len c : Nat) (P : Nat → Prop) (u : Value) (L : List ByteArray) (w0 w : World) (hB : Below w0.heap.size w0 w) (hl : len = 0) (hR : Kd.R Kd.string 9 w w0.heap.size P u L) (hb : L.length ≤ 1000) :
    Calls Tryd.prog 31 #[.agg #[.int .i64 2, .int .i64 n, .string s, .slice A len c], u] w fun e' w' => ∃ v : Value, e' = .returned v ∧ Kd.R Kd.string 9 w' w0.heap.size (fun k => Old P w k ∨ w.heap.size ≤ k) v (adds L s) ∧ Below w0.heap.size w0 w' ∧ Kept w w' (Old P w) := by
  subst hl
  obtain ⟨K, hK⟩ := add_tot L s (by omega)
  have hBW : Below w.heap.size w (w.alloc (.cells #[.int .i64 2, .int .i64 n, .string s, .slice A 0 c] 24)) := below_alloc (Below.refl _ _) _
  have hA := Aside0.mk (tumbrelref04_add.calls K (Old P w) u L s (adds L s) w0 (w.alloc (.cells #[.int .i64 2, .int .i64 n, .string s, .slice A 0 c] 24)) (below_step hB hBW) (Kd.R_below (R_old hR) hBW) hK)
  have hBW' := Aside0.mk hBW
  clear hR hB hK hBW hb
  go_enter Tryd.func31, Tryd.ntmps31
  go_wp2_with (first
    | (go_at_call 47; (with_reducible refine hA.out.mono ?_); rintro e w5 ⟨v, rfl, hR5, hB5, hK5⟩; have hR5' := Aside0.mk hR5; have hB5' := Aside0.mk hB5; have hK5' := Aside0.mk hK5; obtain ⟨x0, x1, x2, x3, xl⟩ := cells4n (blk_kept (blk_new w _) hK5 (fun h => by have := h.2; omega)); clear hR5 hB5 hK5)
    | fail)
  go_loopg [1, 16] 1 (fun kq v1 v16 w' => v16 = .int .i64 0 ∧ v = v1 ∧ w' = w5 ∧ Aside0 (kq = 1))
  case atStart => exact ⟨rfl, rfl, rfl, ⟨rfl⟩⟩
  case round =>
    obtain ⟨rfl, rfl, rfl, hk⟩ := hrel
    cases gk with
    | zero => exact absurd hk.out (by omega)
    | succ k1 =>
    go_wp2
    go_ret
    exact ⟨_, rfl, Kd.R_mono hR5'.out (fun k hk => hk.elim (fun h => .inl h) (fun h => .inr (Nat.le_trans hBW'.out.size h))), hB5'.out, (Kept.of_below hBW'.out (Old P w)).then_ hK5'.out (fun k h => .inl h)⟩
theorem rrefs_tot : ∀ e, RrC e := by
  intro e
  induction e with
  | none => intro A c P u L w0 w hB hC hc hR hb; exact rrefs_parts 0 0 eB [] (by simp) (.inl rfl) (by simp) A c P u L w0 w hB hC hc hR (by simp only [List.map_nil, List.sum_nil]; omega)
  | lit n => intro A c P u L w0 w hB hC hc hR hb; exact rrefs_parts 1 n eB [] (by simp) (.inr (.inl rfl)) (by simp) A c P u L w0 w hB hC hc hR (by simp only [List.map_nil, List.sum_nil]; omega)
  | ref s => intro A c P u L w0 w hB hC hc hR hb; exact rrefs_ref 0 s A _ c P u L w0 w hB rfl hR (by omega)
  | not x ih =>
    intro A c P u L w0 w hB hC hc hR hb
    have := rrefs_parts 3 0 eB [x] (by simp) (.inr (.inr (.inl rfl))) (by simpa using ih) A c P u L w0 w hB hC hc hR (by simp only [tot] at hb; simp only [List.map_cons, List.map_nil, List.sum_cons, List.sum_nil]; omega)
    simp only [List.flatMap_cons, List.flatMap_nil, List.append_nil] at this
    exact this
  | neg x ih =>
    intro A c P u L w0 w hB hC hc hR hb
    have := rrefs_parts 4 0 eB [x] (by simp) (.inr (.inr (.inr (.inl rfl)))) (by simpa using ih) A c P u L w0 w hB hC hc hR (by simp only [tot] at hb; simp only [List.map_cons, List.map_nil, List.sum_cons, List.sum_nil]; omega)
    simp only [List.flatMap_cons, List.flatMap_nil, List.append_nil] at this
    exact this
  | bin o l r ih1 ih2 =>
    intro A c P u L w0 w hB hC hc hR hb
    have := rrefs_parts 5 0 o [l, r] (by simp) (.inr (.inr (.inr (.inr rfl)))) (by simpa using ⟨ih1, ih2⟩) A c P u L w0 w hB hC hc hR (by simp only [tot] at hb; simp only [List.map_cons, List.map_nil, List.sum_cons, List.sum_nil]; omega)
    simp only [List.flatMap_cons, List.flatMap_nil, List.append_nil] at this
    exact this
set_option maxHeartbeats 4000000 in
theorem rRefs_calls (e : Ex) (hs : short e) (A : Option Addr) (c : Nat) (w : World) (hC : Kd.C k24 w A (toN e).f3.length (toN e).f3) (hc : (toN e).f3.length ≤ c) (hT : Tabs w) :
    Calls Tryd.prog 18 #[nv e A c] w fun e' w' => ∃ v : Value, e' = .returned v ∧ Kd.R Kd.string 9 w' w.heap.size (fun _ => True) v (if fmd e = true then nsort e else []) ∧ Below w.heap.size w w' := by
  have hF := Aside0.mk (fun W (hb : Below w.heap.size w W) => rFormed_calls e hs A c W (Kd.C_below hC hb) hc (hT.below hb))
  have hRr := Aside0.mk (fun (ht : tot e ≤ 40) W (hb : Below w.heap.size w W) => rrefs_tot e A c (fun _ => False) (.slice none 0 0) [] w W hb hC hc (Kd.R_nil _ _ _ _ _) (by simp only [List.length_nil]; omega))
  have htt : fmd e = true → tot e ≤ 40 := fun h => by
    rw [fmd_eq] at h
    simp only [Bool.and_eq_true, decide_eq_true_eq] at h
    have := h.1.1
    omega
  unfold nv at hF hRr ⊢
  obtain ⟨fb, hfb⟩ : ∃ b, fmd e = b := ⟨_, rfl⟩
  rw [hfb] at hF htt ⊢
  have hns : Aside0 ((nms e).foldl adds [] = nsort e) := ⟨rfl⟩
  rw [hns.out] at hRr
  obtain ⟨ns, hn⟩ : ∃ ns, nsort e = ns := ⟨_, rfl⟩
  rw [hn] at hRr ⊢
  clear hC hT hs hfb hn hns
  obtain ⟨tn, htn⟩ : ∃ tn, toN e = tn := ⟨_, rfl⟩
  rw [htn] at hF hRr hc ⊢
  clear htn
  obtain ⟨k, m, s, l⟩ := tn
  simp only [] at hF hRr hc ⊢
  cases fb with
  | false =>
    rw [if_neg (by decide)]
    go_enter Tryd.func18, Tryd.ntmps18
    go_wp2_with (first
      | (go_at_call 14; (with_reducible refine (hF.out _ (by repeat (first | exact Below.refl _ _ | refine below_drew ?_ | refine pw_below_drewN ?_ _ | refine below_alloc ?_ _))).mono ?_); rintro e w1 ⟨rfl, hb1⟩; have hb1' : Aside0 (Below w.heap.size w w1) := ⟨below_step (by repeat (first | exact Below.refl _ _ | refine below_drew ?_ | refine pw_below_drewN ?_ _ | refine below_alloc ?_ _)) hb1⟩; clear hb1)
      | fail)
    go_ret
    exact ⟨_, rfl, Kd.R_nil _ _ _ _ _, hb1'.out⟩
  | true =>
    rw [if_pos rfl]
    have hR2 := Aside0.mk (hRr.out (htt rfl))
    clear hRr htt
    go_enter Tryd.func18, Tryd.ntmps18
    go_wp2_with (first
      | (go_at_call 14; (with_reducible refine (hF.out _ (by repeat (first | exact Below.refl _ _ | refine below_drew ?_ | refine pw_below_drewN ?_ _ | refine below_alloc ?_ _))).mono ?_); rintro e w1 ⟨rfl, hb1⟩; have hb1' : Aside0 (Below w.heap.size w w1) := ⟨below_step (by repeat (first | exact Below.refl _ _ | refine below_drew ?_ | refine pw_below_drewN ?_ _ | refine below_alloc ?_ _)) hb1⟩; obtain ⟨x0, x1, x2, x3, xl⟩ := cells4n (blk_below (w := w.alloc _) (blk_new _ _) hb1); clear hb1)
      | (go_at_call 31; (with_reducible refine (hR2.out _ hb1'.out).mono ?_); rintro e w2 ⟨v, rfl, hR3, hB3, hK3⟩; have hR3' := Aside0.mk hR3; have hB3' := Aside0.mk hB3; clear hR3 hB3 hK3)
      | fail)
    go_ret
    exact ⟨_, rfl, Kd.R_mono hR3'.out (fun _ _ => trivial), hB3'.out⟩
end Go.Proofs.YtdhlbhkpleoicaaDoor.Exp
