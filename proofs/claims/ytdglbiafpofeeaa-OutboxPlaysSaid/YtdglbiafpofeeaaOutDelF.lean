/- slices.DeleteFunc at letters, by the closure of Forget. -/
import Derived.Test.YtdglbiafpofeeaaOutDel
namespace Go.Proofs.Ytdglbiafpofeeaa.Obx
open Go.RowKit Go.Proofs.YtdglbiafpofeeaaW.PrintWords Go.Proofs.YtdglbiafpofeeaaW.PrintLast Go.Proofs.YtdglbiafpofeeaaW.PrintMore Go.Proofs.Ytdglbiafpofeeaa.POutboxNil
open Frm
set_option linter.unusedVariables false
set_option linter.unusedSimpArgs false
theorem idx_before {f : Lt → Bool} : ∀ {L : List Lt} {i j : Nat}, idx f L i = some j → ∀ x ∈ L.take (j - i), f x = false
  | [], _, _, h => by cases h
  | x :: r, i, j, h => by
    unfold idx at h
    split at h
    · cases h
      simp
    · rename_i hf
      have h1 := (idx_some h).1
      have h2 := idx_before h
      intro y hy
      rw [show j - i = (j - (i + 1)) + 1 by omega, List.take_succ_cons] at hy
      rcases List.mem_cons.1 hy with rfl | hy
      · simpa using hf
      · exact h2 y hy
theorem idx_never {f : Lt → Bool} : ∀ {L : List Lt} {i : Nat}, idx f L i = none → ∀ x ∈ L, f x = false
  | [], _, _ => by simp
  | x :: r, i, h => by
    unfold idx at h
    split at h
    · cases h
    · rename_i hf
      intro y hy
      rcases List.mem_cons.1 hy with rfl | hy
      · simpa using hf
      · exact idx_never h y hy
theorem filter_never {n : Int} {L : List Lt} (h : find (fun x => x.inst == n) L = none) : L.filter (stays n) = L := by
  rw [List.filter_eq_self]
  intro x hx
  have := idx_never h x hx
  unfold stays
  rw [this]
  rfl
theorem filter_first {n : Int} {L : List Lt} {i : Nat} (h : find (fun x => x.inst == n) L = some i) : (L.take (i + 1)).filter (stays n) = L.take i := by
  obtain ⟨x, hx, hf⟩ := find_some h
  have hb := idx_before h
  rw [Nat.sub_zero] at hb
  have hl : i < L.length := (List.getElem?_eq_some_iff.1 hx).1
  rw [List.take_add_one, hx, List.filter_append]
  have e1 : (L.take i).filter (stays n) = L.take i := by
    rw [List.filter_eq_self]
    intro y hy
    have := hb y hy
    unfold stays
    rw [this]
    rfl
  rw [e1]
  simp [stays, hf]
theorem filter_step (n : Int) (L : List Lt) {j : Nat} {x : Lt} (hx : L[j]? = some x) : (L.take (j + 1)).filter (stays n) = (L.take j).filter (stays n) ++ (if (x.inst == n) = true then [] else [x]) := by
  rw [List.take_add_one, hx, List.filter_append]
  congr 1
  by_cases h : (x.inst == n) = true
  · rw [if_pos h]
    simp [stays, h]
  · rw [if_neg h]
    simp [stays, h]
theorem wp_store59 {W : World} {ops : Array Oper} {rest : List Oper} {o : Oper} {a : Act} {Q : Exit → Act → World → Prop} (hgd : o.guard = none) (hN : o.dst = none) (p x : Operand) (ho : o.op = .store 59 p x)
    {g n cap i o' : Nat} {ok : Nat → Prop} {M : List Lt} (y : Lt) (haddr : a.eval p = .pointer (some ⟨g, o', none⟩)) (ho' : o' = i * 7) (hx : a.eval x = ltV y) (h : Kd.R kLt 59 W 0 ok (.slice (some ⟨g, 0, none⟩) n cap) M) (hi : i < n)
    (hk : ∀ w1, Kd.R kLt 59 w1 0 ok (.slice (some ⟨g, 0, none⟩) n cap) (M.set i y) → W.grownBy w1 (some g) → wpList Try.prog ops Q rest a w1) : wpList Try.prog ops Q (o :: rest) a W := by
  obtain ⟨c, hcl, _, hcc, _⟩ := Kd.R_elem h lt0 (i : Int) (by omega) (by omega)
  have h7 : kLt.sz = 7 := rfl
  rw [h7] at hcl hcc
  refine Kd.R_store kLt (w0 := W) 0 hN hgd 59 p x ho 59 (i : Int) 0 M y (ltV y) (ltC y) c ok (fun _ => False) haddr (by rw [ho', h7]; simp) hx rfl (by kernel_rfl) (by intro q hq; simp [ltC] at hq; rcases hq with rfl | rfl | rfl | rfl | rfl | rfl | rfl <;> rfl) h (by omega) (by omega) hcl
    (by rw [h7]; exact hcc) (by simp [ltC, h7]) ?_ (fun _ hk => hk.elim) (Below.refl _ _) ?_
  · have e : c.take 0 ++ ltC y ++ c.drop (0 + (ltC y).length) = ltC y := by
      rw [List.take_zero, List.nil_append, List.drop_eq_nil_of_le (by rw [hcl]; simp [ltC]), List.append_nil]
    rw [e]
    exact kLt_mk _ _ _ y
  · intro w1 hR _ hg
    rw [show ((i : Int)).toNat = i from by simp] at hR
    exact hk w1 hR hg
theorem take_set {M : List Lt} {i : Nat} {y : Lt} (h : i < M.length) : (M.set i y).take (i + 1) = M.take i ++ [y] := by
  rw [List.take_set, List.take_add_one, List.getElem?_eq_getElem h]
  rw [List.set_append]
  simp [Nat.min_eq_left (Nat.le_of_lt h)]
theorem el_blk {w : World} {g : Nat} {x0 x1 x2 x3 x5 : Int} {x4 : ByteArray} {x6 : Bool} (h : w.heap[g]? = some (.cells #[.int .i64 x0, .int .i64 x1, .int .i64 x2, .int .i64 x3, .string x4, .int .i64 x5, .bool x6] 59 (0, 0))) :
    w.cell? ⟨g, 0, none⟩ = some (.int .i64 x0) ∧ w.cell? ⟨g, 1, none⟩ = some (.int .i64 x1) ∧ w.cell? ⟨g, 2, none⟩ = some (.int .i64 x2) ∧ w.cell? ⟨g, 3, none⟩ = some (.int .i64 x3) ∧ w.cell? ⟨g, 4, none⟩ = some (.string x4) ∧ w.cell? ⟨g, 5, none⟩ = some (.int .i64 x5) ∧ w.cell? ⟨g, 6, none⟩ = some (.bool x6) :=
  ⟨(blk_cell h 0).trans rfl, (blk_cell h 1).trans rfl, (blk_cell h 2).trans rfl, (blk_cell h 3).trans rfl, (blk_cell h 4).trans rfl, (blk_cell h 5).trans rfl, (blk_cell h 6).trans rfl⟩
set_option maxHeartbeats 1000000 in
set_option maxRecDepth 100000 in
theorem DeleteFunc_same (nn : Int) (b cap : Nat) (A : Option Addr) (L : List Lt) (w : World) (hC : Kd.C kLt w A L.length L) (hb : w.heap[b]? = some (.cells #[.int .i64 nn] 3 (0, 0))) (hn : L.length ≤ 1000) (hf : find (fun x : Lt => x.inst == nn) L = none) :
    Calls Try.prog 50 #[.slice A L.length cap, .func (.func 51) #[] #[.pointer (some ⟨b, 0, none⟩)]] w fun e w' => e = .returned (.slice A L.length cap) ∧ Below w.heap.size w w' := by
  have hidx := Aside0.mk (Index_51 (fun x => x.inst == nn) (.pointer (some ⟨b, 0, none⟩)) L hn A cap w hC (fun W hB x _ => inst_calls x nn b W (blk_below hb hB)))
  rw [hf] at hidx
  clear hf hb hC
  go_enter Try.func50, Try.ntmps50
  go_wp2_with fail
  refine hidx.out.mono ?_
  rintro e w1 ⟨rfl, hb1⟩
  have hb1' := Aside0.mk hb1
  clear hb1
  unfold idxV
  simp only []
  go_wp2
  go_ret
  exact ⟨rfl, hb1'.out⟩
set_option maxHeartbeats 4000000 in
set_option maxRecDepth 100000 in
theorem DeleteFunc_calls (nn : Int) (b g cap : Nat) (L : List Lt) (ok : Nat → Prop) (w : World) (h : Kd.R kLt 59 w 0 ok (.slice (some ⟨g, 0, none⟩) L.length cap) L) (hb : w.heap[b]? = some (.cells #[.int .i64 nn] 3 (0, 0))) (hn : L.length ≤ 1000) :
    Calls Try.prog 50 #[.slice (some ⟨g, 0, none⟩) L.length cap, .func (.func 51) #[] #[.pointer (some ⟨b, 0, none⟩)]] w fun e w' =>
      e = .returned (.slice (some ⟨g, 0, none⟩) (L.filter (stays nn)).length cap) ∧ Kd.R kLt 59 w' 0 ok (.slice (some ⟨g, 0, none⟩) (L.filter (stays nn)).length cap) (L.filter (stays nn)) ∧ w.grownBy w' (some g) := by
  have hC := (Kd.R_reads' h).2.2
  have hcap := (Kd.R_reads' h).2.1
  have hidx := Aside0.mk (Index_51 (fun x => x.inst == nn) (.pointer (some ⟨b, 0, none⟩)) L hn (some ⟨g, 0, none⟩) cap w hC (fun W hB x _ => inst_calls x nn b W (blk_below hb hB)))
  obtain ⟨cells, hgc⟩ := Kd.R_typed h g (by simp [Value.ownBlock])
  have hbg : b ≠ g := blk_ne hb (show w.heap[g]? = some (.cells cells 59 (0, 0)) from hgc) (by decide)
  have h' := Aside0.mk h
  have hb' := Aside0.mk hb
  obtain ⟨F, hF⟩ : ∃ F, L.filter (stays nn) = F := ⟨_, rfl⟩
  have hF' := Aside0.mk hF
  rw [hF]
  clear h hb hC hgc hF
  cases hf : find (fun x : Lt => x.inst == nn) L with
  | none =>
    rw [hf] at hidx
    have hFL : F = L := by rw [← hF'.out]; exact filter_never hf
    subst hFL
    clear hf hF'
    go_enter Try.func50, Try.ntmps50
    go_wp2_with fail
    refine hidx.out.mono ?_
    rintro e w1 ⟨rfl, hb1⟩
    have hb1' := Aside0.mk hb1
    clear hb1
    unfold idxV
    simp only []
    go_wp2
    go_ret
    exact ⟨rfl, Kd.R_below h'.out hb1'.out, grown_of_below hb1'.out _⟩
  | some i1 =>
    rw [hf] at hidx
    have hil : i1 < L.length := find_lt hf
    have hff := Aside0.mk (filter_first hf)
    have hd1 : ((i1 : Int) == -1) = false := by rw [beq_eq_false_iff_ne]; omega
    have hwr : IntKind.i64.wrap ((i1 : Int) + 1) = (i1 : Int) + 1 := wrap_small i1 (by omega)
    clear hf
    go_enter Try.func50, Try.ntmps50
    go_wp2_with fail
    refine hidx.out.mono ?_
    rintro e w1 ⟨rfl, hb1⟩
    have hb1' := Aside0.mk hb1
    clear hb1 hidx
    unfold idxV
    simp only []
    go_wp2_with fail
    have hR1 := Aside0.mk (Kd.R_below h'.out hb1'.out)
    have hbb1 := Aside0.mk (blk_below hb'.out hb1'.out)
    have hg1 := Aside0.mk (grown_of_below hb1'.out (some g))
    clear hd1 hwr
    go_loopg [5, 6] (L.length + 1) (fun kq v5 v6 w' => ∃ (i j : Nat) (M : List Lt), v5 = .int .i64 (i : Int) ∧ v6 = .int .i64 (j : Int) ∧ Aside0 (L.length + 1 ≤ kq + j) ∧ Aside0 (i < j) ∧ Aside0 (j ≤ L.length) ∧ Aside0 (M.take i = (L.take j).filter (stays nn)) ∧ Aside0 (M.drop j = L.drop j) ∧ Aside0 (M.length = L.length) ∧ Aside0 (Kd.R kLt 59 w' 0 ok (.slice (some ⟨g, 0, none⟩) L.length cap) M) ∧ Aside0 (w'.heap[b]? = some (.cells #[.int .i64 nn] 3 (0, 0))) ∧ Aside0 (w.grownBy w' (some g)))
    case atStart => exact ⟨i1, i1 + 1, L, rfl, by go_num, ⟨by omega⟩, ⟨by omega⟩, ⟨by omega⟩, ⟨hff.out.symm⟩, ⟨rfl⟩, ⟨rfl⟩, hR1, hbb1, hg1⟩
    case round =>
      clear hff hil hR1 hbb1 hg1
      obtain ⟨i, j, M, rfl, rfl, hk, hij, hjl, hMi, hMj, hMl, hR, hbk, hg⟩ := hrel
      have hij' := hij.out
      have hjl' := hjl.out
      by_cases hlt : j < L.length
      · have hd : decide ((j : Int) < (L.length : Int)) = true := decide_eq_true (by omega)
        have hd' : decide (j < L.length) = true := decide_eq_true hlt
        cases gk with
        | zero => exact absurd hk.out (by omega)
        | succ k1 =>
          obtain ⟨x, hq⟩ : ∃ x, L[j]? = some x := ⟨_, List.getElem?_eq_getElem hlt⟩
          have hqM : M[j]? = some x := by
            have e1 := congrArg (fun l => l[0]?) hMj.out
            simp only [List.getElem?_drop, Nat.add_zero] at e1
            rw [e1]; exact hq
          obtain ⟨y0, y1, y2, y3, y4, y5, y6⟩ := el7 hR.out hqM
          have hst := filter_step nn L hq
          rw [← hMi.out] at hst
          have hMj2 : M.drop (j + 1) = L.drop (j + 1) := by
            have e1 := congrArg (fun l => l.drop 1) hMj.out
            simpa [List.drop_drop, Nat.add_comm] using e1
          obtain ⟨xt, xk, xi, xu, xs, xa, xo⟩ := x
          simp only [] at y0 y1 y2 y3 y4 y5 y6 hst
          obtain ⟨W, hW⟩ : ∃ W, wr.alloc (.cells #[.int .i64 xt, .int .i64 xk, .int .i64 xi, .int .i64 xu, .string xs, .int .i64 xa, .bool xo] 59) = W := ⟨_, rfl⟩
          have hBW : Below wr.heap.size wr W := by rw [← hW]; exact below_alloc (Below.refl _ _) _
          have hvW : W.heap[wr.heap.size]? = some (.cells #[.int .i64 xt, .int .i64 xk, .int .i64 xi, .int .i64 xu, .string xs, .int .i64 xa, .bool xo] 59 (0, 0)) := by rw [← hW]; exact blk_new _ _
          have hc := Aside0.mk (inst_calls ⟨xt, xk, xi, xu, xs, xa, xo⟩ nn b W (blk_below hbk.out hBW))
          simp only [] at hc
          have hBW' := Aside0.mk hBW
          have hvW' := Aside0.mk hvW
          have hW' := Aside0.mk hW
          have hst' := Aside0.mk hst
          have hMj2' := Aside0.mk hMj2
          have hlt' := Aside0.mk hlt
          clear hq hqM hst hMj2 hBW hvW hW
          go_upto_region 8 with fail
          rw [hW'.out]
          obtain ⟨q0, q1, q2, q3, q4, q5, q6⟩ := el_blk hvW'.out
          cases hbb : (xi == nn) with
          | true =>
            rw [hbb] at hc
            have e1 : (List.take (j + 1) L).filter (stays nn) = List.take i M := by rw [hst'.out, hbb, if_pos rfl, List.append_nil]
            have e1' := Aside0.mk e1
            clear e1 hbb
            go_wp2_with (first
              | (go_at_call 51; (with_reducible refine hc.out.mono ?_); rintro e w2 ⟨rfl, hb2⟩
                 have hB2 : Aside0 (Below wr.heap.size wr w2) := ⟨below_step hBW'.out hb2⟩
                 have hv2 := blk_below hvW'.out hb2
                 obtain ⟨z0, z1, z2, z3, z4, z5, z6⟩ := el_blk hv2
                 clear hb2 hv2)
              | fail)
            go_roundg k1
            case measure => have := hk.out; omega
            case rel => exact ⟨i, j + 1, M, rfl, by go_num, ⟨by have := hk.out; omega⟩, ⟨by have := hij.out; omega⟩, ⟨by have := hlt'.out; omega⟩, ⟨e1'.out.symm⟩, hMj2', hMl, ⟨Kd.R_below hR.out hB2.out⟩, ⟨blk_below hbk.out hB2.out⟩, ⟨hg.out.trans (grown_of_below hB2.out _)⟩⟩
          | false =>
            rw [hbb] at hc
            have e1 : (List.take (j + 1) L).filter (stays nn) = List.take i M ++ [⟨xt, xk, xi, xu, xs, xa, xo⟩] := by rw [hst'.out, hbb, if_neg (by decide)]
            have e1' := Aside0.mk e1
            clear e1 hbb
            have hiM : i < M.length := by have := hMl.out; omega
            have hiM' := Aside0.mk hiM
            have hwr2 : IntKind.i64.wrap ((i : Int) + 1) = (i : Int) + 1 := wrap_small i (by omega)
            have hwr3 : IntKind.i64.wrap ((j : Int) + 1) = (j : Int) + 1 := wrap_small j (by omega)
            have hi1000 : (i : Int) ≤ 1000 := by omega
            clear hiM
            go_wp2_with (first
              | (go_at_call 51; (with_reducible refine hc.out.mono ?_); rintro e w2 ⟨rfl, hb2⟩
                 have hB2 : Aside0 (Below wr.heap.size wr w2) := ⟨below_step hBW'.out hb2⟩
                 have hv2 := blk_below hvW'.out hb2
                 obtain ⟨z0, z1, z2, z3, z4, z5, z6⟩ := el_blk hv2
                 clear hb2 hv2)
              | ((refine gate_ (.store 59 (.tmp 33) (.tmp 32)) rfl ?_)
                 refine wp_store59 rfl rfl (.tmp 33) (.tmp 32) rfl ⟨xt, xk, xi, xu, xs, xa, xo⟩ rfl rfl rfl (Kd.R_below hR.out hB2.out) (by omega) ?_
                 intro w3 hR3 hg3
                 have hR3' := Aside0.mk hR3
                 have hg3' := Aside0.mk hg3
                 clear hR3 hg3)
              | fail)
            go_roundg k1
            case measure => have := hk.out; omega
            case rel => exact ⟨i + 1, j + 1, M.set i ⟨xt, xk, xi, xu, xs, xa, xo⟩, by go_num, by go_num, ⟨by have := hk.out; omega⟩, ⟨by have := hij.out; omega⟩, ⟨by have := hlt'.out; omega⟩, ⟨by rw [e1'.out]; exact take_set hiM'.out⟩, ⟨by rw [List.drop_set_of_lt (by have := hij.out; omega)]; exact hMj2'.out⟩, ⟨by rw [List.length_set]; exact hMl.out⟩, hR3', ⟨blk_grown (blk_below hbk.out hB2.out) hg3'.out (by simpa using hbg)⟩, ⟨(hg.out.trans (grown_of_below hB2.out _)).trans hg3'.out⟩⟩
      · have hd : decide ((j : Int) < (L.length : Int)) = false := decide_eq_false (by omega)
        have hd' : decide (j < L.length) = false := decide_eq_false hlt
        obtain rfl : j = L.length := by omega
        have hMF : M.take i = F := by rw [hMi.out, List.take_length, hF'.out]
        have hiM : i < M.length := by have := hMl.out; omega
        have hFl : F.length = i := by rw [← hMF, List.length_take]; omega
        obtain ⟨i0, hi0, hz⟩ := Option.map_eq_some_iff.1 infoLt59
        simp only [Prod.mk.injEq] at hz
        have hc1 := cut_to (P := Try.prog) 65 59 .i64 Try.underlying65 hi0 (some ⟨g, 0, none⟩) L.length cap (i : Int) (by omega) (by omega) hcap
        rw [show ((i : Int)).toNat = i from by simp] at hc1
        have hc2 := cut_from (P := Try.prog) 65 59 .i64 Try.underlying65 hi0 7 hz.2.1 (some ⟨g, 0, none⟩) L.length cap (i : Int) (by omega) (by omega)
        rw [show ((i : Int)).toNat = i from by simp, if_neg (by omega), Option.map_some, add_plain] at hc2
        have hRi := Kd.R_take hR.out (m := i) (by omega)
        rw [hMF] at hRi
        have hRi' := Aside0.mk hRi
        obtain ⟨v38, hv38⟩ : ∃ v38, Value.slice (some ⟨g, i * 7, none⟩) (L.length - i) (cap - i) = v38 := ⟨_, rfl⟩
        rw [hv38] at hc2
        have hv38' := Aside0.mk hv38
        have hFl' := Aside0.mk hFl
        clear hi0 hz hRi hv38 hFl hMF
        go_wp2_with (first
          | ((with_reducible refine gate_builtin (b := .clear) (xs := #[.tmp 38]) rfl ?_)
             refine wp_clear59 rfl (.tmp 38) rfl hv38'.out.symm rfl hRi'.out (by omega) (by omega) ?_
             intro w2 hR2 hg2
             have hR2' := Aside0.mk hR2
             have hg2' := Aside0.mk hg2
             clear hR2 hg2)
          | fail)
        go_ret
        rw [hFl'.out]
        exact ⟨rfl, hR2'.out, hg.out.trans hg2'.out⟩
end Go.Proofs.Ytdglbiafpofeeaa.Obx
