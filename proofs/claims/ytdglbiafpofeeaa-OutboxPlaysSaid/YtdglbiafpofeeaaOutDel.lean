/- slices.Delete and slices.Clone at letters. -/
import Derived.Test.YtdglbiafpofeeaaOutIdx
import Derived.Lib.SliceRun
import Derived.Deep.RegionHeld3
import Derived.Outline
namespace Go.Proofs.Ytdglbiafpofeeaa.Obx
open Go.RowKit Go.Proofs.YtdglbiafpofeeaaW.PrintWords Go.Proofs.YtdglbiafpofeeaaW.PrintLast Go.Proofs.YtdglbiafpofeeaaW.PrintMore Go.Proofs.Ytdglbiafpofeeaa.POutboxNil
open Frm
set_option linter.unusedVariables false
set_option linter.unusedSimpArgs false
/-- clear(s), s a cut of a row of whatever cells. -/
theorem run_clear_cells {P : Program} (w : World) (t e ty : TypeId) (z : Value) (ht : P.underlying t = some (.slice e)) (hv : ∀ w, (zeroValue e).run P w = .ok z w) (h1 : ∀ u ∈ z.cells, u.oneCell' = true) (b o n c : Nat) (hn : 0 < n) (hz0 : 0 < z.cells.size)
    (hc : ∀ j, j < n * z.cells.size → (w.cell? ⟨b, o + j, none⟩).isSome = true) (hf : ∀ j, j < n * z.cells.size → w.frozen? ⟨b, o + j, none⟩ = false) :
    (Builtin.clear_ #[t] ty #[.slice (some ⟨b, o, none⟩) n c]).run P w = .ok (.tuple #[]) (w.setCells b o (Builtin.zeroCells z.cells n).toList) := by
  have hlen : (Builtin.zeroCells z.cells n).toList.length = n * z.cells.size := by simp [Builtin.zeroCells]
  have hst := run_storeCells_cells (P := P) b o (Builtin.zeroCells z.cells n).toList 0 w (by rw [hlen]; simpa using hc) (by rw [hlen]; simpa using hf) (by
    intro u hu
    obtain ⟨i, hi, rfl⟩ := List.getElem_of_mem hu
    simp only [Builtin.zeroCells, Array.toList_map, List.getElem_map]
    have hlt : ∀ q, q % z.cells.size < z.cells.size := fun q => Nat.mod_lt _ hz0
    rw [getElem!_pos z.cells _ (hlt _)]
    exact h1 _ (Array.getElem_mem _))
  simp only [Nat.add_zero] at hst
  obtain ⟨m, rfl⟩ : ∃ m, n = m + 1 := ⟨n - 1, by omega⟩
  simp [Builtin.clear_, run_underlying ht, hv, hst]
/-- Cells behind a row's end are written: the row stays. -/
theorem R_behind {α : Type} {d : Kd α} {e base g n cap : Nat} {ok : Nat → Prop} {W : World} {xs : List α} (h : d.R e W base ok (.slice (some ⟨g, 0, none⟩) n cap) xs) (seg : List Value) (o : Nat) (ho : n * d.sz ≤ o) (hfit : o + seg.length ≤ cap * d.sz) :
    d.R e (W.setCells g o seg) base ok (.slice (some ⟨g, 0, none⟩) n cap) xs ∧ W.grownBy (W.setCells g o seg) (some g) := by
  obtain ⟨hn, hnc, _⟩ := Kd.R_reads' h
  obtain ⟨hok, inner, ⟨ho1, ho2⟩, hr⟩ := h
  obtain ⟨s1, s2, s3, s4⟩ := setCells_same g seg o W
  have hg : W.grownBy (W.setCells g o seg) (some g) := ⟨s1, s2, s3, by rw [s4]; exact Nat.le_refl _, fun k _ hk => setCells_far seg o k (fun e => hk (by rw [e]))⟩
  rcases ho2 with ⟨hv, _⟩ | ⟨g', cap', cur, hv, hb, hh, hnc', hcm, hcs, ht⟩
  · cases hv
  cases hv
  obtain ⟨cur', h3, h4, h5⟩ := setCells_row seg o W cur hh (by rw [hcs]; exact hfit)
  refine ⟨⟨hok, inner, ⟨ho1, .inr ⟨g, cap, cur', rfl, hb, h3, hnc', hcm, by rw [h4, hcs], ?_⟩⟩, ?_⟩, hg⟩
  · rw [h5, ← hn]
    rw [← hn] at ht
    have hcl : cur.toList.length = cap * d.sz := by rw [Array.length_toList, hcs]
    have hns : ∀ q, q ≤ o → q ≤ cap * d.sz → q ≤ min o cur.toList.length := fun q h1 h2 => by omega
    rw [List.append_assoc, List.take_append_of_le_length (by rw [List.length_take]; exact hns _ (by simpa using ho) (Nat.le_trans (by simpa using ho) (by omega))), List.take_take, Nat.min_eq_left (by simpa using ho)]
    exact ht
  · refine hr.imp_ (fun x c hp => ?_)
    exact d.M_move (fun k hk => setCells_far seg o k (fun e => hk.2 (by rw [e]; simp [Value.ownBlock]))) hp
theorem wrap_small (n : Nat) (h : n ≤ 1000) : IntKind.i64.wrap ((n : Int) + 1) = (n : Int) + 1 := by
  simp [IntKind.wrap, IntKind.signed, IntKind.bits]
  omega
theorem zero59 (w : World) : (zeroValue 59).run Try.prog w = .ok (.agg #[.int .i64 0, .int .i64 0, .int .i64 0, .int .i64 0, .string ⟨#[]⟩, .int .i64 0, .bool false]) w := by kernel_rfl
/-- clear of the last elements of a block of letters. -/
theorem clear59 (ty : TypeId) (W : World) (g n cap m : Nat) (c : Nat) (ok : Nat → Prop) (L : List Lt) (h : Kd.R kLt 59 W 0 ok (.slice (some ⟨g, 0, none⟩) n cap) L) (hm : 0 < m) (hc : n + m ≤ cap) :
    ∃ w1, (Builtin.clear_ #[65] ty #[.slice (some ⟨g, n * 7, none⟩) m c]).run Try.prog W = .ok (.tuple #[]) w1 ∧ Kd.R kLt 59 w1 0 ok (.slice (some ⟨g, 0, none⟩) n cap) L ∧ W.grownBy w1 (some g) := by
  have hblk : ∃ cur, W.heap[g]? = some (.cells cur 59 (0, 0)) ∧ cur.size = cap * 7 := by
    obtain ⟨_, inner, ⟨_, ho2⟩, _⟩ := h
    rcases ho2 with ⟨hv, _⟩ | ⟨g', cap', cur, hv, hb, hh, hnc', hcm, hcs, ht⟩
    · cases hv
    cases hv
    exact ⟨cur, hh, hcs⟩
  obtain ⟨cur, hh, hcs⟩ := hblk
  have h7 : (Value.agg #[.int .i64 0, .int .i64 0, .int .i64 0, .int .i64 0, .string ⟨#[]⟩, .int .i64 0, .bool false]).cells.size = 7 := rfl
  have hr := run_clear_cells (P := Try.prog) W 65 59 ty _ Try.underlying65 zero59 (by intro u hu; simp [Value.cells] at hu; rcases hu with rfl | rfl | rfl | rfl | rfl | rfl | rfl <;> rfl) g (n * 7) m c hm (by rw [h7]; omega)
    (fun j hj => by rw [h7] at hj; rw [blk_cell hh, Array.getElem?_eq_getElem (by rw [hcs]; omega)]; rfl) (fun j _ => blk_frozen hh _)
  have hlen : (Builtin.zeroCells (Value.agg #[.int .i64 0, .int .i64 0, .int .i64 0, .int .i64 0, .string ⟨#[]⟩, .int .i64 0, .bool false]).cells m).toList.length = m * 7 := by simp [Builtin.zeroCells, h7]
  obtain ⟨h1, h2⟩ := R_behind h (Builtin.zeroCells (Value.agg #[.int .i64 0, .int .i64 0, .int .i64 0, .int .i64 0, .string ⟨#[]⟩, .int .i64 0, .bool false]).cells m).toList (n * 7) (by rw [kLt_sz]; exact Nat.le_refl _) (by rw [hlen, kLt_sz]; omega)
  exact ⟨_, hr, h1, h2⟩
theorem wp_clear59 {W : World} {ops : Array Oper} {rest : List Oper} {o : Oper} {a : Act} {Q : Exit → Act → World → Prop} (hgd : o.guard = none) (x : Operand) (ho : o.op = .call { callee := .builtin .clear, args := #[x], argTypes := #[65] })
    {g n cap m c o' : Nat} {ok : Nat → Prop} {L : List Lt} (hx : a.eval x = .slice (some ⟨g, o', none⟩) m c) (ho' : o' = n * 7) (h : Kd.R kLt 59 W 0 ok (.slice (some ⟨g, 0, none⟩) n cap) L) (hm : 0 < m) (hc : n + m ≤ cap)
    (hk : ∀ w1, Kd.R kLt 59 w1 0 ok (.slice (some ⟨g, 0, none⟩) n cap) L → W.grownBy w1 (some g) → wpList Try.prog ops Q rest (a.put o.dst (.tuple #[])) w1) : wpList Try.prog ops Q (o :: rest) a W := by
  subst ho'
  obtain ⟨w1, hr, h1, h2⟩ := clear59 o.type W g n cap m c ok L h hm hc
  refine wpList_plain hgd fun K hK => ?_
  unfold Oper.wp execOp
  simp only [ho, resolve, invoke, builtin, Sem.run_bind, Sem.run_pure, Result.andThen_ok, List.map_toArray, List.map_cons, List.map_nil, hx, hr]
  exact hK _ _ (hk w1 h1 h2)
/-- s[lo:hi], hi up to the capacity. -/
theorem cut_wide (g n c lo hi : Nat) (h1 : lo ≤ hi) (h2 : hi ≤ c) : ∀ W : World, (Instr.slice 65 (.slice (some ⟨g, 0, none⟩) n c) (some (.int .i64 (lo : Int))) (some (.int .i64 (hi : Int))) none).run Try.prog W = .ok (.slice (if c = lo then some ⟨g, 0, none⟩ else some ⟨g, lo * 7, none⟩) (hi - lo) (c - lo)) W := by
  intro W
  obtain ⟨i0, hi0, hz⟩ := Option.map_eq_some_iff.1 infoLt59
  simp only [Prod.mk.injEq] at hz
  have hel : Try.prog.elem 65 = 59 := by simp [Program.elem, Try.underlying65]
  have hu : Try.prog.underlying 65 = some (.slice (Try.prog.elem 65)) := by rw [hel]; exact Try.underlying65
  rw [run_slice_lh W 65 (some ⟨g, 0, none⟩) n c hu .i64 .i64 (lo : Int) (hi : Int) (by omega) (by omega) (by omega), hel]
  simp [sizeOf, typeInfo, hi0, hz.2.1, sliced, Result.andThen, Addr.add]
  by_cases hcl : c = lo
  · rw [if_pos hcl, if_pos hcl]
  · rw [if_neg hcl, if_neg hcl]
    by_cases h0 : lo = 0
    · rw [h0]
      rfl
    · rw [if_neg (by omega)]
set_option maxHeartbeats 4000000 in
set_option maxRecDepth 100000 in
theorem Delete_calls (g n cap i : Nat) (L : List Lt) (ok : Nat → Prop) (w : World) (h : Kd.R kLt 59 w 0 ok (.slice (some ⟨g, 0, none⟩) n cap) L) (hi : i < n) (hn : n ≤ 1000) :
    Calls Try.prog 47 #[.slice (some ⟨g, 0, none⟩) n cap, .int .i64 (i : Int), .int .i64 ((i : Int) + 1)] w fun e w' => e = .returned (.slice (some ⟨g, 0, none⟩) (n - 1) cap) ∧ Kd.R kLt 59 w' 0 ok (.slice (some ⟨g, 0, none⟩) (n - 1) cap) (L.eraseIdx i) ∧ w.grownBy w' (some g) := by
  obtain ⟨hnL, hnc, _⟩ := Kd.R_reads' h
  have h' := Aside0.mk h
  have hne : ((i : Int) == (i : Int) + 1) = false := by rw [beq_eq_false_iff_ne]; omega
  obtain ⟨i0, hi0, hz⟩ := Option.map_eq_some_iff.1 infoLt59
  simp only [Prod.mk.injEq] at hz
  have hc1 := cut_to (P := Try.prog) 65 59 .i64 Try.underlying65 hi0 (some ⟨g, 0, none⟩) n cap (i : Int) (by omega) (by omega) hnc
  have hc2 := cut_from (P := Try.prog) 65 59 .i64 Try.underlying65 hi0 7 hz.2.1 (some ⟨g, 0, none⟩) n cap ((i : Int) + 1) (by omega) (by omega)
  rw [show ((i : Int)).toNat = i from by simp] at hc1
  rw [show ((i : Int) + 1).toNat = i + 1 from by omega] at hc2
  obtain ⟨A2, hA2⟩ : ∃ A2, (if cap = i + 1 then some (⟨g, 0, none⟩ : Addr) else (some (⟨g, 0, none⟩ : Addr)).map (·.add ((i + 1) * 7))) = A2 := ⟨_, rfl⟩
  rw [hA2] at hc2
  have hA2' := Aside0.mk hA2
  obtain ⟨AA, hAA⟩ : ∃ AA, (some (⟨g, 0, none⟩ : Addr)) = AA := ⟨_, rfl⟩
  have hAA' := Aside0.mk hAA
  rw [hAA] at hc1 hc2
  rw [show Calls Try.prog 47 #[.slice (some ⟨g, 0, none⟩) n cap, .int .i64 (i : Int), .int .i64 ((i : Int) + 1)] w = Calls Try.prog 47 #[.slice AA n cap, .int .i64 (i : Int), .int .i64 ((i : Int) + 1)] w from by rw [hAA]]
  clear h hi0 hz hA2 hAA
  have hnL' := Aside0.mk hnL
  clear hnL
  go_enter Try.func47, Try.ntmps47
  obtain ⟨v25, hv25⟩ : ∃ v25, Value.slice A2 (n - (i + 1)) (cap - (i + 1)) = v25 := ⟨_, rfl⟩
  rw [hv25] at hc2
  have hv25' := Aside0.mk hv25
  clear hv25
  go_upto_region 5 with fail
  go_region_held3 (fun _ => True) (trivial)
    (first
      | ((refine Kd.R_delete_step kLt (w0 := w) 0 (by rfl) (.tmp 22) (.tmp 25) 65 59 (by rfl) Try.underlying65 (by kernel_rfl) (n := n) (k := i) (congrArg (fun z => Value.slice z i cap) hAA'.out.symm) hv25'.out.symm hA2'.out.symm rfl (Kd.R_drew h'.out) hi (below0 (below_drew (Below.refl _ _))) (Nat.zero_le _) ?_); intro w1 hR1 _ hg1; have hR1' := Aside0.mk hR1; have hg1' := Aside0.mk hg1; clear hR1 hg1)
      | fail)
  have hcw := cut_wide g (n - 1) cap (n - 1) n (by omega) (by omega)
  rw [if_neg (by omega), show n - (n - 1) = 1 from by omega] at hcw
  obtain ⟨v31, hv31⟩ : ∃ v31, Value.slice (some ⟨g, (n - 1) * 7, none⟩) 1 (cap - (n - 1)) = v31 := ⟨_, rfl⟩
  rw [hv31] at hcw
  have hv31' := Aside0.mk hv31
  clear hv31
  go_wp2_with (first
    | ((with_reducible refine gate_builtin (b := .clear) (xs := #[.tmp 31]) rfl ?_)
       refine wp_clear59 rfl (.tmp 31) rfl hv31'.out.symm rfl hR1'.out (by decide) (by omega) ?_
       intro w2 hR2 hg2
       have hR2' := Aside0.mk hR2
       have hg2' := Aside0.mk hg2
       clear hR2 hg2)
    | fail)
  go_ret
  exact ⟨rfl, hR2'.out, ((grown_of_below (below_drew (Below.refl _ _)) _).trans hg1'.out).trans hg2'.out⟩
set_option maxHeartbeats 2000000 in
set_option maxRecDepth 100000 in
theorem Clone_calls (A : Option Addr) (c : Nat) (L : List Lt) (hl : L.length ≤ 1000) (w : World) (hC : Kd.C kLt w A L.length L) :
    Calls Try.prog 52 #[.slice A L.length c] w fun e w' => ∃ v, e = .returned v ∧ Kd.R kLt 59 w' w.heap.size (fun _ => True) v L ∧ Below w.heap.size w w' := by
  have hq : ∀ (W : World) (a : Option Addr) (n c n' c' : Nat), (binOp .eql 65 (.slice a n c) (.slice none n' c')).run Try.prog W = .ok (.bool a.isNone) W := fun W a n c n' c' => Lib.run_eql_slice_nil W _ _ a n c n' c' Try.underlying65
  have hC' := Aside0.mk hC
  by_cases hnil : A = none
  · subst hnil
    have h0 : L = [] := by
      rcases Nat.eq_zero_or_pos L.length with h0 | h0
      · exact List.eq_nil_of_length_eq_zero h0
      · obtain ⟨ad, h_, _⟩ := hC.2.2 h0
        cases h_
    subst h0
    clear hC hC'
    go_enter Try.func52, Try.ntmps52
    go_wp2
    go_ret
    exact ⟨_, rfl, Kd.R_nil _ _ _ _ _, Below.refl _ _⟩
  · have hsome : A.isNone = false := by
      cases A with
      | none => exact absurd rfl hnil
      | some _ => rfl
    clear hnil hC
    have hR0 : Aside0 (Kd.R kLt 59 (w.alloc (.cells #[] 59)) w.heap.size (fun _ => True) (.slice (some ⟨w.heap.size, 0, none⟩) 0 0) []) := ⟨R_mtk kLt (blk_new _ _) (Nat.le_refl _) trivial⟩
    go_enter Try.func52, Try.ntmps52
    go_wp2_with (first
      | ((with_reducible refine gate_builtin (b := .append) (xs := #[.tmp 5, .tmp 6]) rfl ?_); at_builtin
         refine Kd.R_append_rows kLt (w0 := w) w.heap.size rfl (.tmp 5) (.tmp 6) 65 59 _ 64 rfl Try.underlying65 infoLt59 rfl (by decide) (by decide) (.slice (some ⟨w.heap.size, 0, none⟩) 0 0) [] L A L.length c (fun _ => True) (fun _ => False) rfl rfl hR0.out (Kd.C_below hC'.out (below_alloc (Below.refl _ _) _)) (fun x cs hx => by rw [kLt_open hx]; exact kLt_mk _ _ _ x) (fun _ hk => hk.elim) (fun _ _ => trivial) (below_alloc (Below.refl _ _) _) (by simp) (by simp; omega) ?_
         intro v1 w1 hR1 hB1 hg1 hat1
         rw [List.nil_append] at hR1
         have hR1' := Aside0.mk hR1
         have hB1' := Aside0.mk hB1
         clear hR1 hB1 hg1 hat1)
      | fail)
    go_ret
    exact ⟨v1, rfl, hR1'.out, hB1'.out⟩
end Go.Proofs.Ytdglbiafpofeeaa.Obx
