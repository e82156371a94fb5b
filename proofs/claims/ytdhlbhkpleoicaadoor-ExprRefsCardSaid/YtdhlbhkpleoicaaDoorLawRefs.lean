/- ExprRefs, walked. -/
import Derived.Test.YtdhlbhkpleoicaaDoorExRefs
import Derived.Test.YtdhlbhkpleoicaaDoorExRRefs
namespace Go.Proofs.YtdhlbhkpleoicaaDoor.Exp
open Go.RowKit Go.Proofs.YtdhlbhkpleoicaaDoorW.PrintWords Go.Proofs.YtdhlbhkpleoicaaDoorW.PrintLast Go.Proofs.YtdhlbhkpleoicaaDoorW.PrintMore Go.Proofs.YtdhlbhkpleoicaaDoor.PExprEvals
open Frm
set_option linter.unusedVariables false
set_option linter.unusedSimpArgs false
set_option maxRecDepth 100000
theorem short_N : ∀ x, short x → shortN x := by
  intro x
  induction x with
  | none => intro h; trivial
  | lit n => intro h; trivial
  | ref s => intro h; exact h
  | not x ih => intro h; exact ih h
  | neg x ih => intro h; exact ih h
  | bin o l r ih1 ih2 => intro h; exact ⟨ih1 h.1, ih2 h.2⟩
/-- The names that an expression answers. -/
def rf (x : Ex) : List ByteArray := if fmd x = true then nsort x else []
theorem rf_nodup (x : Ex) : (rf x).Nodup := by
  unfold rf
  split
  · exact (names_both x).1.nodup
  · exact List.nodup_nil
theorem ev_same (vs vs' : List S46) : ∀ x, (∀ s ∈ nms x, look vs' s = look vs s) → ev vs' x = ev vs x := by
  intro x
  induction x with
  | none => intro _; rfl
  | lit n => intro _; rfl
  | ref s => intro h; exact h s (by simp [nms])
  | not x ih => intro h; simp only [ev]; rw [ih h]
  | neg x ih => intro h; simp only [ev]; rw [ih h]
  | bin o l r ih1 ih2 =>
    intro h
    simp only [ev]
    rw [ih1 (fun s hs => h s (by simp only [nms, List.mem_append]; exact .inl hs)), ih2 (fun s hs => h s (by simp only [nms, List.mem_append]; exact .inr hs))]
theorem evl_own (vs : List S46) (x : Ex) : evl (vs.filter fun v => has (rf x) v.f0) x = evl vs x := by
  unfold evl
  by_cases h : fmd x = true
  · rw [if_pos h, if_pos h, ev_same vs _ x (fun s hs => look_filter vs _ s (fun v hv => by
      unfold rf
      rw [if_pos h, hv, has_iff, nsort_mem]
      exact hs))]
  · rw [if_neg h, if_neg h]
theorem few_len : ∀ (l : List S46) (i : Nat), fewL l i = true → l = [] ∨ i + l.length ≤ 200
  | [], _, _ => .inl rfl
  | x :: r, i, h => by
    unfold fewL at h
    by_cases h1 : 200 ≤ i
    · rw [if_pos h1] at h; cases h
    · rw [if_neg h1] at h
      by_cases h2 : 1000 < x.f0.size
      · rw [if_pos h2] at h; cases h
      · rw [if_neg h2] at h
        rcases few_len r (i + 1) h with e | e
        · subst e; right; simp only [List.length_cons, List.length_nil]; omega
        · right; simp only [List.length_cons]; omega
theorem infoV : (Tryd.prog.info? 46).map (fun i => (i.zero, i.size, i.bytes)) = some (some (.agg #[.string ⟨#[]⟩, .int .i64 0]), 2, 24) := by kernel_rfl
theorem at_str {w : World} {A : Option Addr} {n : Nat} {xs : List ByteArray} (h : Kd.C Kd.string w A n xs) (i : Int) (h0 : 0 ≤ i) (h1 : i < n) : ∃ ad, A = some ad ∧ w.cell? (ad.add i.toNat) = some (.string (rdOf ByteArray.empty xs i)) :=
  ReadsOf.at_ (Kd.reads_of_C (enc := Value.string) (d := ByteArray.empty) (h1 := fun _ => rfl) h) i h0 h1
theorem rd_str {xs : List ByteArray} {i : Nat} (h : i < xs.length) : rdOf ByteArray.empty xs (i : Int) = xs[i] := by simp [rdOf, List.getD_eq_getElem?_getD, h]
/-- The variables that are named among the first k names: v, or none. -/
def acc (ns : List ByteArray) (v : S46) (k : Nat) : List S46 := if has (ns.take k) v.f0 = true then [v] else []
theorem has_take {ns : List ByteArray} {k : Nat} (h : k < ns.length) (s : ByteArray) : has (ns.take (k + 1)) s = (has (ns.take k) s || decide (ns[k] = s)) := by
  unfold has
  rw [List.take_succ_eq_append_getElem h, List.any_append, List.any_cons, List.any_nil, Bool.or_false]
theorem acc_hit {ns : List ByteArray} {v : S46} {k : Nat} (hn : ns.Nodup) (h : k < ns.length) (he : ns[k] = v.f0) : acc ns v k = [] ∧ acc ns v (k + 1) = [v] := by
  have h1 : ¬ (has (ns.take k) v.f0 = true) := by
    rw [has_iff]
    intro hm
    obtain ⟨j, hj, e⟩ := List.getElem_of_mem hm
    have hj2 : j < k := by rw [List.length_take] at hj; omega
    rw [List.getElem_take, ← he] at e
    have := (List.getElem_inj hn).1 e
    omega
  unfold acc
  rw [if_neg h1, has_take h, decide_eq_true he, Bool.or_true, if_pos rfl]
  exact ⟨rfl, rfl⟩
theorem acc_miss {ns : List ByteArray} {v : S46} {k : Nat} (h : k < ns.length) (he : ns[k] ≠ v.f0) : acc ns v (k + 1) = acc ns v k := by
  unfold acc
  rw [has_take h, decide_eq_false he, Bool.or_false]
theorem acc_len (ns : List ByteArray) (v : S46) (k : Nat) : (acc ns v k).length ≤ 1 := by
  unfold acc
  split <;> simp
/-- The variables of the first i that are named. -/
def own (ns : List ByteArray) (vs : List S46) (i : Nat) : List S46 := (vs.take i).filter fun v => has ns v.f0
theorem own_step {ns : List ByteArray} {vs : List S46} {i : Nat} (h : i < vs.length) : own ns vs (i + 1) = own ns vs i ++ acc ns (rd_T46 vs (i : Int)) ns.length := by
  have hr : rd_T46 vs (i : Int) = vs[i] := by simp [rd_T46, List.getD_eq_getElem?_getD, h]
  unfold own acc
  rw [List.take_succ_eq_append_getElem h, List.filter_append, hr, List.take_length]
  congr 1
  by_cases hp : has ns vs[i].f0 = true
  · rw [if_pos hp, List.filter_cons_of_pos (by exact hp), List.filter_nil]
  · rw [if_neg hp, List.filter_cons_of_neg (by exact hp), List.filter_nil]
theorem own_len (ns : List ByteArray) (vs : List S46) (i : Nat) : (own ns vs i).length ≤ vs.length := by
  have h1 := List.length_filter_le (fun v : S46 => has ns v.f0) (vs.take i)
  have h2 : (vs.take i).length ≤ vs.length := by rw [List.length_take]; omega
  unfold own
  omega
set_option maxHeartbeats 8000000 in
theorem refs_calls (x : S24) (vs : List S46) (A1 A3 : Option Addr) (c1 c3 : Nat) (w : World) (hC1 : Kd.C k24 w A1 x.f3.length x.f3) (hc1 : x.f3.length ≤ c1) (hC3 : Kd.C k46 w A3 vs.length vs) (hc3 : vs.length ≤ c3) (hvl : vs.length ≤ 140737488351232) (hT : Tabs w) :
    Calls Tryd.prog 5 #[.agg #[.int .i64 x.f0, .int .i64 x.f1, .string x.f2, .slice A1 x.f3.length c1], .slice A3 vs.length c3] w fun e w' => e = .returned (.bool true) ∧ Below w.heap.size w w' := by
  obtain ⟨s1, hsh, hs1⟩ := SmallS_calls x (okN_C 200 x w A1 hC1)
  have hS1 := Aside0.mk (fun W (hb : Below w.heap.size w W) => hs1 A1 c1 W (Kd.C_below hC1 hb) hc1)
  have hT1 := Aside0.mk (fun W (hb : Below w.heap.size w W) => Theirs_calls x A1 c1 W (Kd.C_below hC1 hb) hc1)
  have hK1 := Aside0.mk (fun W (hb : Below w.heap.size w W) => clean_ok x A1 c1 W (Kd.C_below hC1 hb) hc1)
  have hF := Aside0.mk (fun W (hb : Below w.heap.size w W) => few_calls vs A3 c3 W (Kd.C_below hC3 hb))
  have hE := Aside0.mk (fun W (hb : Below w.heap.size w W) => Eval_calls (theirs x) vs hvl A3 c3 W (Kd.C_below hC3 hb) hc3)
  have hE2 := Aside0.mk (fun W (vs' : List S46) (hl : vs'.length ≤ 140737488351232) A c (hC : Kd.C k46 W A vs'.length vs') hc => Eval_calls (theirs x) vs' hl A c W hC hc)
  have hRp := Aside0.mk (fun (h : s1 = true) W => Refs_calls (theirs x) (short_N _ (hsh h)) W)
  have hRd := Aside0.mk (fun (h : s1 = true) W (hb : Below w.heap.size w W) A c hC hc => rRefs_calls (theirs x) (hsh h) A c W hC hc (hT.below hb))
  have hnd := rf_nodup (theirs x)
  have hown := evl_own vs (theirs x)
  have hfew := few_len vs 0
  obtain ⟨fb, hfb⟩ : ∃ b, fewL vs 0 = b := ⟨_, rfl⟩
  rw [hfb] at hF hfew
  obtain ⟨X, hX⟩ : ∃ X, theirs x = X := ⟨_, rfl⟩
  rw [hX] at hT1 hK1 hE hE2 hRp hRd hnd hown
  have hrf : (if fmd X = true then nsort X else []) = rf X := rfl
  rw [hrf] at hRp hRd
  obtain ⟨ns, hns⟩ : ∃ ns, rf X = ns := ⟨_, rfl⟩
  rw [hns] at hRp hRd hnd hown
  obtain ⟨⟨rn, re⟩, hr⟩ : ∃ p, evl vs X = p := ⟨_, rfl⟩
  rw [hr] at hE hown
  obtain ⟨k1, n1, t1, l1⟩ := x
  simp only [] at hS1 hT1 hK1 hE hE2 ⊢
  have hC3' := Aside0.mk hC3
  have hnd' := Aside0.mk hnd
  have hown' := Aside0.mk hown
  clear hs1 hC1 hC3 hc1 hc3 hfb hX hT hsh hr hrf hns hnd hown
  have hAw := Aside0.mk (fun w => awake_calls w)
  obtain ⟨vX, hvX⟩ : ∃ v, enc X = v := ⟨_, rfl⟩
  have hf1 : vX = .nilIface ∨ ∃ t u, vX = .iface t u := hvX ▸ enc_form X
  rw [hvX] at hT1 hE hE2 hRp
  have hf1' := Aside0.mk hf1
  obtain ⟨nX, hnX⟩ : ∃ n, toN X = n := ⟨_, rfl⟩
  unfold nv at hK1 hRd
  rw [hnX] at hK1 hRd
  obtain ⟨k2, n2, t2, l2⟩ := nX
  simp only [] at hK1 hRd
  clear hvX hf1 hnX
  go_enter Tryd.func5, Tryd.ntmps5
  go_upto_region 1 with fail
  refine wp_world (fun W hW => ?_)
  have hB1 : W.heap[w.heap.size]? = some (.cells #[.int .i64 k1, .int .i64 n1, .string t1, .slice A1 l1.length c1] 24 (0, 0)) := by rw [hW]; exact blk_new _ _
  have hBW : Aside0 (Below w.heap.size w W) := ⟨by rw [hW]; exact below_alloc (Below.refl _ _) _⟩
  obtain ⟨b1, hb1⟩ : ∃ b, w.heap.size = b := ⟨_, rfl⟩
  rw [hb1] at hB1
  rw [hb1]
  have hB1' := Aside0.mk hB1
  clear hW hB1
  have hc2 : s1 = false ∨ (s1 = true ∧ fb = false) ∨ (s1 = true ∧ fb = true) := by cases s1 <;> cases fb <;> simp
  rcases hc2 with rfl | ⟨rfl, rfl⟩ | ⟨rfl, rfl⟩
  iterate 2
    · go_upto_region 2 with (first
      | (go_at_call 6; (with_reducible refine (hAw.out _).mono ?_); rintro e w1 ⟨rfl, hq1⟩; have hX1 := Aside0.mk hq1; clear hq1; obtain ⟨x0, x1, x2, x3, xl⟩ := cells4n (blk_below hB1'.out hX1.out))
      | (go_at_call 7; (with_reducible refine (hS1.out _ (below_step hBW.out hX1.out)).mono ?_); rintro e w2 ⟨rfl, hq2⟩; have hX2 : Aside0 (Below W.heap.size W w2) := ⟨below_step hX1.out hq2⟩; clear hq2)
      | (go_at_call 8; (with_reducible refine (hF.out _ (below_step hBW.out hX2.out)).mono ?_); rintro e w4 ⟨rfl, ⟨m4, hm4⟩⟩; have hX4 : Aside0 (Below W.heap.size W w4) := ⟨by rw [hm4]; exact pw_below_drewN hX2.out _⟩; clear hm4)
      | fail)
      go_wp2_with (first | (go_at_call 6; (with_reducible refine (hAw.out _).mono ?_); rintro e w9 ⟨rfl, hq9⟩; have hX9 := Aside0.mk hq9; clear hq9) | fail)
      go_ret
      exact ⟨rfl, below_step hBW.out (below_step (by first | exact hX4.out | exact hX2.out) hX9.out)⟩
  · have hRp2 := Aside0.mk (hRp.out rfl)
    have hRd2 := Aside0.mk (hRd.out rfl)
    have hvs : vs.length ≤ 200 := by
      rcases hfew rfl with h | h
      · rw [h]; simp
      · omega
    clear hRp hRd hfew
    go_upto_region 3 with (first
      | (go_at_call 6; (with_reducible refine (hAw.out _).mono ?_); rintro e w1 ⟨rfl, hq1⟩; have hX1 := Aside0.mk hq1; clear hq1; obtain ⟨x0, x1, x2, x3, xl⟩ := cells4n (blk_below hB1'.out hX1.out))
      | (go_at_call 7; (with_reducible refine (hS1.out _ (below_step hBW.out hX1.out)).mono ?_); rintro e w2 ⟨rfl, hq2⟩; have hX2 : Aside0 (Below W.heap.size W w2) := ⟨below_step hX1.out hq2⟩; clear hq2)
      | (go_at_call 8; (with_reducible refine (hF.out _ (below_step hBW.out hX2.out)).mono ?_); rintro e w4 ⟨rfl, ⟨m4, hm4⟩⟩; have hX4 : Aside0 (Below W.heap.size W w4) := ⟨by rw [hm4]; exact pw_below_drewN hX2.out _⟩; clear hm4)
      | fail)
    clear x0 x1 x2 x3 xl
    have hB4 := Aside0.mk (blk_below hB1'.out hX4.out)
    have hBW4 := Aside0.mk (below_step hBW.out hX4.out)
    have hf2 := hf1'.out
    clear hX1 hX2 hS1 hF hf1'
    rcases hf2 with rfl | ⟨p, q, rfl⟩
    all_goals
      go_region_held3 (fun w' => w'.cell? ⟨b1, 0, none⟩ = some (.int .i64 k1) ∧ w'.cell? ⟨b1, 1, none⟩ = some (.int .i64 n1) ∧ w'.cell? ⟨b1, 2, none⟩ = some (.string t1) ∧ w'.cell? ⟨b1, 3, none⟩ = some (.slice A1 l1.length c1))
        (refine keep4n (W := w4) hB4.out (by repeat (first | (with_reducible exact Below.refl _ _) | (with_reducible exact hZ5.out) | (with_reducible exact hZ6.out) | (with_reducible exact hZ7.out) | (with_reducible exact hZ8.out) | (with_reducible refine below_drew ?_))))
        (first
          | (go_at_call 10; (with_reducible refine (hT1.out _ (by repeat (first | (with_reducible exact hBW4.out) | (with_reducible refine below_drew ?_)))).mono ?_); rintro e w5 ⟨rfl, hq5⟩; have hZ5 : Aside0 (Below w4.heap.size w4 w5) := ⟨below_step (by repeat (first | (with_reducible exact Below.refl _ _) | (with_reducible refine below_drew ?_))) hq5⟩; clear hq5)
          | (go_at_call 17; (with_reducible refine (hRp2.out _).mono ?_); rintro e w6 ⟨v6, rfl, hR6, hq6⟩; obtain ⟨A6, c6, rfl, hc6, hC6⟩ := Kd.R_reads hR6; have hC6' := Aside0.mk hC6; have hZ6 : Aside0 (Below w4.heap.size w4 w6) := ⟨below_step hZ5.out hq6⟩; clear hq6 hR6 hC6)
          | (go_at_call 12; (with_reducible refine (hK1.out _ (below_step hBW4.out hZ6.out)).mono ?_); rintro e w7 ⟨A7, c7, rfl, hC7, hc7, hq7⟩; have hZ7 : Aside0 (Below w4.heap.size w4 w7) := ⟨below_step hZ6.out hq7⟩; have hq7' := Aside0.mk hq7; have hR7 := Aside0.mk (hRd2.out _ (below_step hBW4.out hZ7.out) A7 c7 hC7 hc7); clear hq7 hC7 hc7)
          | (go_at_call 18; (with_reducible refine hR7.out.mono ?_); rintro e w8 ⟨v8, rfl, hR8, hq8⟩; obtain ⟨A8, c8, rfl, hc8, hC8⟩ := Kd.R_reads hR8; have hC8' := Aside0.mk hC8; have hC6w := Aside0.mk (Kd.C_below (Kd.C_below hC6'.out hq7'.out) hq8); have hZ8 : Aside0 (Below w4.heap.size w4 w8) := ⟨below_step hZ7.out hq8⟩; clear hq8 hR8 hC8)
          | fail)
      have hBW8 := Aside0.mk (below_step hBW4.out hZ8.out)
      have hB8 := Aside0.mk (blk_below hB4.out hZ8.out)
      have hnl : (ns.length : Int) ≤ 9223372036854775807 := by have := Kd.C_max hC8'.out; omega
      clear hZ5 hZ6 hZ7 hR7 hq7' hC6'
      go_wp2_with fail
      go_loopg [41] (ns.length + 1) (fun kq v41 w' => ∃ (i : Nat), v41 = .int .i64 (i : Int) ∧ Aside0 (kq + i = ns.length + 1) ∧ Aside0 (i ≤ ns.length) ∧ Aside0 (Below w8.heap.size w8 w'))
      case atStart => exact ⟨0, rfl, ⟨by omega⟩, ⟨by omega⟩, ⟨by repeat (first | (with_reducible exact Below.refl _ _) | (with_reducible refine below_drew ?_) | (with_reducible refine pw_below_drewN ?_ _))⟩⟩
      case round =>
        obtain ⟨i, rfl, hk, hi, hB⟩ := hrel
        cases gk with
        | zero => exact absurd hk.out (by have := hi.out; omega)
        | succ k1 =>
        by_cases hlt : i < ns.length
        · have hd : decide ((i : Int) < (ns.length : Int)) = true := decide_eq_true (by omega)
          have hd' : decide (i < ns.length) = true := decide_eq_true hlt
          have p1 : 0 ≤ (i : Int) := by omega
          have q1 : (i : Int) < (ns.length : Int) := by omega
          obtain ⟨ad, e1, y⟩ := at_str (Kd.C_below hC6w.out hB.out) (i : Int) p1 q1
          obtain ⟨ad2, e2, z⟩ := at_str (Kd.C_below hC8'.out hB.out) (i : Int) p1 q1
          cases e1
          cases e2
          rw [show ((i : Int)).toNat = i from by simp] at y z
          obtain ⟨s, hs⟩ : ∃ s, rdOf ByteArray.empty ns (i : Int) = s := ⟨_, rfl⟩
          rw [hs] at y z
          have hq1 : (s.toList != s.toList) = false := by simp
          have hlt' := Aside0.mk hlt
          clear hs hlt
          go_upto_region 10 with fail
          go_quiet (fail)
          go_wp2
          go_roundg k1
          case measure => have := hk.out; omega
          case rel => exact ⟨i + 1, by go_num, ⟨by have := hk.out; omega⟩, ⟨by have := hlt'.out; omega⟩, ⟨by repeat (first | (with_reducible exact hB.out) | (with_reducible refine below_drew ?_) | (with_reducible refine pw_below_drewN ?_ _))⟩⟩
        · have hd : decide ((i : Int) < (ns.length : Int)) = false := decide_eq_false (by omega)
          have hd' : decide (i < ns.length) = false := decide_eq_false hlt
          have hB0 := hB
          clear hlt hk hi
          go_wp2_with fail
          obtain ⟨W9, hW9⟩ : ∃ W, wr = W := ⟨_, rfl⟩
          have hB9 : Aside0 (Below w8.heap.size w8 W9) := ⟨hW9 ▸ hB0.out⟩
          rw [hW9]
          clear hW9 hB0 hB
          go_loopg [7, 56] (vs.length + 1) (fun kq v7 v56 w' => ∃ (i : Nat) (u7 : Value), u7 = v7 ∧ v56 = .int .i64 (i : Int) ∧ Aside0 (kq + i = vs.length + 1) ∧ Aside0 (i ≤ vs.length) ∧ Aside0 (Kd.R k46 46 w' w8.heap.size (fun _ => True) u7 (own ns vs i)) ∧ Aside0 (Below w8.heap.size w8 w'))
          case atStart => exact ⟨0, _, rfl, rfl, ⟨by omega⟩, ⟨by omega⟩, ⟨Kd.R_nil _ _ _ _ _⟩, ⟨by repeat (first | (with_reducible exact hB9.out) | (with_reducible refine below_drew ?_) | (with_reducible refine pw_below_drewN ?_ _))⟩⟩
          case round =>
            obtain ⟨i, u7, rfl, rfl, hk, hi, hR, hB⟩ := hrel
            cases gk with
            | zero => exact absurd hk.out (by have := hi.out; omega)
            | succ k1 =>
            by_cases hlt : i < vs.length
            · have hd : decide ((i : Int) < (vs.length : Int)) = true := decide_eq_true (by omega)
              have hd' : decide (i < vs.length) = true := decide_eq_true hlt
              have p1 : 0 ≤ (i : Int) := by omega
              have q1 : (i : Int) < (vs.length : Int) := by omega
              have hst := Aside0.mk (own_step (ns := ns) hlt)
              obtain ⟨⟨vn, vv⟩, hvi⟩ : ∃ v, rd_T46 vs (i : Int) = v := ⟨_, rfl⟩
              rw [hvi] at hst
              have hvi' := Aside0.mk hvi
              have hlt' := Aside0.mk hlt
              have hol := own_len ns vs i
              obtain ⟨L, hL⟩ : ∃ L, own ns vs i = L := ⟨_, rfl⟩
              rw [hL] at hst hR hol
              clear hvi hlt hL
              go_wp2_with fail
              go_loopg [7, 61] (ns.length + 1) (fun kq v7 v61 w' => ∃ (k : Nat) (u7 : Value), u7 = v7 ∧ v61 = .int .i64 (k : Int) ∧ Aside0 (kq + k = ns.length + 1) ∧ Aside0 (k ≤ ns.length) ∧ Aside0 (Kd.R k46 46 w' w8.heap.size (fun _ => True) u7 (L ++ acc ns ⟨vn, vv⟩ k)) ∧ Aside0 (Below w8.heap.size w8 w'))
              case atStart => exact ⟨0, _, rfl, rfl, ⟨by omega⟩, ⟨by omega⟩, ⟨by simpa [acc, has] using hR.out⟩, hB⟩
              case round =>
                obtain ⟨k, u8, rfl, rfl, hk2, hi2, hR2, hB2⟩ := hrel
                cases gk with
                | zero => exact absurd hk2.out (by have := hi2.out; omega)
                | succ k2 =>
                by_cases hlt2 : k < ns.length
                · have hd2 : decide ((k : Int) < (ns.length : Int)) = true := decide_eq_true (by omega)
                  have hd2' : decide (k < ns.length) = true := decide_eq_true hlt2
                  have p2 : 0 ≤ (k : Int) := by omega
                  have q2 : (k : Int) < (ns.length : Int) := by omega
                  obtain ⟨ad, e1, y⟩ := at_str (Kd.C_below hC6w.out hB2.out) (k : Int) p2 q2
                  obtain ⟨ad3, e3, z0, z1⟩ := at_T46 (Kd.C_below hC3'.out (below_step hBW8.out hB2.out)) (i : Int) p1 q1
                  cases e1
                  cases e3
                  rw [show ((k : Int)).toNat = k from by simp, rd_str hlt2] at y
                  rw [show ((i : Int)).toNat = i from by simp, hvi'.out] at z0 z1
                  simp only [] at z0 z1
                  have hac := acc_len ns ⟨vn, vv⟩ k
                  by_cases he : ns[k] = vn
                  · have hh := acc_hit (v := ⟨vn, vv⟩) hnd'.out hlt2 he
                    rw [he] at y
                    have hq2 : (vn.toList == vn.toList) = true := by simp
                    have hlt3 := Aside0.mk hlt2
                    have hR3 : Aside0 (Kd.R k46 46 wr w8.heap.size (fun _ => True) u8 L) := ⟨by have h := hR2.out; rw [hh.1, List.append_nil] at h; exact h⟩
                    have hac2 := Aside0.mk hh.2
                    have hbs : w8.heap.size ≤ wr.heap.size := hB2.out.size
                    clear he hh hlt2 hac
                    go_upto_region 19 with fail
                    go_quiet (fail)
                    go_wp2_with (first
                      | ((with_reducible refine gate_builtin (b := .append) (xs := #[.tmp 74, .tmp 79]) rfl ?_); at_builtin
                         refine Kd.R_append k46 (w0 := w8) w8.heap.size rfl (.tmp 74) (.tmp 79) 25 46 (.agg #[.string ⟨#[]⟩, .int .i64 0]) 24 rfl Tryd.underlying25 infoV rfl (by decide) (by decide) u8 L ⟨vn, vv⟩ [.string vn, .int .i64 vv] (fun _ => True) (fun _ => False) rfl rfl (k46_mkM _ _ _ ⟨vn, vv⟩) (fun _ hk => hk.elim) (fun _ _ => trivial) (Kd.R_below hR3.out (by repeat (first | (with_reducible exact Below.refl _ _) | (with_reducible refine below_drew ?_) | (with_reducible refine pw_below_drewN ?_ _)))) (by repeat (first | (with_reducible exact hB2.out) | (with_reducible refine below_drew ?_) | (with_reducible refine pw_below_drewN ?_ _))) (by first | exact hbs | (simp; exact hbs)) (by omega) ?_
                         intro v1 w1 hR1 hB1 hg1 hat1
                         have hR1' : Aside0 (Kd.R k46 46 w1 w8.heap.size (fun _ => True) v1 (L ++ acc ns ⟨vn, vv⟩ (k + 1))) := ⟨by rw [hac2.out]; exact hR1⟩
                         have hB1' := Aside0.mk hB1
                         clear hR1 hB1 hg1 hat1)
                      | fail)
                    go_roundg k2
                    case measure => have := hk2.out; omega
                    case rel => exact ⟨k + 1, v1, rfl, by go_num, ⟨by have := hk2.out; omega⟩, ⟨by have := hlt3.out; omega⟩, hR1', hB1'⟩
                  · have hh := acc_miss (v := ⟨vn, vv⟩) hlt2 he
                    have hq2 : (ns[k].toList == vn.toList) = false := by rw [beq_str]; exact decide_eq_false he
                    obtain ⟨s, hs⟩ : ∃ s, ns[k] = s := ⟨_, rfl⟩
                    rw [hs] at y hq2
                    have hlt3 := Aside0.mk hlt2
                    have hh' := Aside0.mk hh
                    clear he hh hs hlt2
                    go_upto_region 19 with fail
                    go_quiet (fail)
                    go_wp2
                    go_roundg k2
                    case measure => have := hk2.out; omega
                    case rel => exact ⟨k + 1, u8, rfl, by go_num, ⟨by have := hk2.out; omega⟩, ⟨by have := hlt3.out; omega⟩, ⟨by rw [hh'.out]; exact Kd.R_below hR2.out (by repeat (first | (with_reducible exact Below.refl _ _) | (with_reducible refine below_drew ?_) | (with_reducible refine pw_below_drewN ?_ _)))⟩, ⟨by repeat (first | (with_reducible exact hB2.out) | (with_reducible refine below_drew ?_) | (with_reducible refine pw_below_drewN ?_ _))⟩⟩
                · have hd2 : decide ((k : Int) < (ns.length : Int)) = false := decide_eq_false (by omega)
                  have hd2' : decide (k < ns.length) = false := decide_eq_false hlt2
                  have hkk : k = ns.length := by have := hi2.out; omega
                  subst hkk
                  have hR4 : Aside0 (Kd.R k46 46 wr w8.heap.size (fun _ => True) u8 (own ns vs (i + 1))) := ⟨by rw [hst.out]; exact hR2.out⟩
                  go_wp2
                  go_roundg k1
                  case measure => have := hk.out; omega
                  case rel => exact ⟨i + 1, u8, rfl, by go_num, ⟨by have := hk.out; omega⟩, ⟨by have := hlt'.out; omega⟩, hR4, hB2⟩
            · have hd : decide ((i : Int) < (vs.length : Int)) = false := decide_eq_false (by omega)
              have hd' : decide (i < vs.length) = false := decide_eq_false hlt
              have hkk : i = vs.length := by have := hi.out; omega
              subst hkk
              obtain ⟨A9, c9, e9, hc9, hC9⟩ := Kd.R_reads hR.out
              cases e9
              have hlen9 := own_len ns vs vs.length
              have how : Aside0 (evl (own ns vs vs.length) X = (rn, re)) := ⟨by rw [← hown'.out]; unfold own; rw [List.take_length]⟩
              obtain ⟨L, hL⟩ : ∃ L, own ns vs vs.length = L := ⟨_, rfl⟩
              rw [hL] at hC9 hc9 hlen9 how ⊢
              have hE3 : Aside0 (∀ W, Below wr.heap.size wr W → _) := ⟨fun W (hb : Below wr.heap.size wr W) => hE2.out W L (by omega) A9 c9 (Kd.C_below hC9 hb) hc9⟩
              rw [how.out] at hE3
              obtain ⟨x0, x1, x2, x3, xl⟩ := cells4n (blk_below hB8.out hB.out)
              have hG := Aside0.mk (blk_below hB8.out hB.out)
              have hBW9 := Aside0.mk (below_step hBW8.out hB.out)
              clear hL hC9 hR how hlen9
              go_wp2_with (first
                | (go_at_call 10; (with_reducible refine (hT1.out _ (below_step hBW9.out hY2.out)).mono ?_); rintro e w12 ⟨rfl, hq3⟩; have hY3 : Aside0 (Below wr.heap.size wr w12) := ⟨below_step hY2.out hq3⟩; clear hq3)
                | (go_at_call 10; (with_reducible refine (hT1.out _ hBW9.out).mono ?_); rintro e w10 ⟨rfl, hq1⟩; have hY1 := Aside0.mk hq1; clear hq1)
                | (go_at_call 9; (with_reducible refine (hE3.out _ hY3.out).mono ?_); rintro e w13 ⟨rfl, hq4⟩; have hY4 : Aside0 (Below wr.heap.size wr w13) := ⟨below_step hY3.out hq4⟩; clear hq4)
                | (go_at_call 9; (with_reducible refine (hE.out _ (below_step hBW9.out hY1.out)).mono ?_); rintro e w11 ⟨rfl, hq2⟩; have hY2 : Aside0 (Below wr.heap.size wr w11) := ⟨below_step hY1.out hq2⟩; clear hq2; clear x0 x1 x2 x3 xl; obtain ⟨x0, x1, x2, x3, xl⟩ := cells4n (blk_below hG.out hY2.out))
                | fail)
              go_ret
              exact ⟨by simp, below_step hBW9.out hY4.out⟩
end Go.Proofs.YtdhlbhkpleoicaaDoor.Exp
