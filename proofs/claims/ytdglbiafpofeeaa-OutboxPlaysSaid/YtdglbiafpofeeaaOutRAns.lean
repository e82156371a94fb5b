/- The document's Answer, walked. -/
import Derived.Test.YtdglbiafpofeeaaOutRPut
namespace Go.Proofs.Ytdglbiafpofeeaa.Obx
open Go.RowKit Go.Proofs.YtdglbiafpofeeaaW.PrintWords Go.Proofs.YtdglbiafpofeeaaW.PrintLast Go.Proofs.YtdglbiafpofeeaaW.PrintMore Go.Proofs.Ytdglbiafpofeeaa.POutboxNil
open Frm
set_option linter.unusedVariables false
set_option linter.unusedSimpArgs false
theorem el_blk75 {w : World} {g : Nat} {x0 x1 x2 x3 x5 : Int} {x4 : ByteArray} {x6 : Bool} (h : w.heap[g]? = some (.cells #[.int .i64 x0, .int .i64 x1, .int .i64 x2, .int .i64 x3, .string x4, .int .i64 x5, .bool x6] 75 (0, 0))) :
    w.cell? ⟨g, 0, none⟩ = some (.int .i64 x0) ∧ w.cell? ⟨g, 1, none⟩ = some (.int .i64 x1) ∧ w.cell? ⟨g, 2, none⟩ = some (.int .i64 x2) ∧ w.cell? ⟨g, 3, none⟩ = some (.int .i64 x3) ∧ w.cell? ⟨g, 4, none⟩ = some (.string x4) ∧ w.cell? ⟨g, 5, none⟩ = some (.int .i64 x5) ∧ w.cell? ⟨g, 6, none⟩ = some (.bool x6) :=
  ⟨(blk_cell h 0).trans rfl, (blk_cell h 1).trans rfl, (blk_cell h 2).trans rfl, (blk_cell h 3).trans rfl, (blk_cell h 4).trans rfl, (blk_cell h 5).trans rfl, (blk_cell h 6).trans rfl⟩
/-- s[:j], of the document's letters. -/
theorem cut75 (n cap j g : Nat) (hj : j < n) (hc : n ≤ cap) :
    (∀ W : World, (Instr.slice 70 (.slice (some ⟨g, 0, none⟩) n cap) none (some (.int .i64 (j : Int))) none).run Try.prog W = .ok (.slice (some ⟨g, 0, none⟩) j cap) W) ∧
    ∃ A' c', (∀ W : World, (Instr.slice 70 (.slice (some ⟨g, 0, none⟩) n cap) (some (.int .i64 ((j : Int) + 1))) none none).run Try.prog W = .ok (.slice A' (n - (j + 1)) c') W) ∧ A' = (if cap = j + 1 then some ⟨g, 0, none⟩ else (some (⟨g, 0, none⟩ : Addr)).map (·.add ((j + 1) * kLt.sz))) := by
  obtain ⟨i0, hi0, hz⟩ := Option.map_eq_some_iff.1 infoLt75
  simp only [Prod.mk.injEq] at hz
  have h1 := cut_to (P := Try.prog) 70 75 .i64 Try.underlying70 hi0 (some ⟨g, 0, none⟩) n cap (j : Int) (by omega) (by omega) hc
  rw [show ((j : Int)).toNat = j from by simp] at h1
  have h2 := cut_from (P := Try.prog) 70 75 .i64 Try.underlying70 hi0 7 hz.2.1 (some ⟨g, 0, none⟩) n cap ((j : Int) + 1) (by omega) (by omega)
  rw [show ((j : Int) + 1).toNat = j + 1 from by omega] at h2
  exact ⟨h1, _, _, h2, rfl⟩
theorem keep13 {W cur : World} {p b g q : Nat} {u : Value} {xk xi xu xa yk yi yu ya : Int} {xs ys : ByteArray} {xo yo : Bool} (hp : W.cell? ⟨p, 0, none⟩ = some u) (h : W.heap[b]? = some (.cells #[.int .i64 xk, .int .i64 xi, .int .i64 xu, .string xs, .int .i64 xa, .bool xo] 28 (0, 0)))
    (h1 : W.cell? ⟨g, q + 1, none⟩ = some (.int .i64 yk)) (h2 : W.cell? ⟨g, q + 2, none⟩ = some (.int .i64 yi)) (h3 : W.cell? ⟨g, q + 3, none⟩ = some (.int .i64 yu)) (h4 : W.cell? ⟨g, q + 4, none⟩ = some (.string ys)) (h5 : W.cell? ⟨g, q + 5, none⟩ = some (.int .i64 ya)) (h6 : W.cell? ⟨g, q + 6, none⟩ = some (.bool yo)) (hb : Below W.heap.size W cur) :
    cur.cell? ⟨p, 0, none⟩ = some u ∧ cur.cell? ⟨b, 0, none⟩ = some (.int .i64 xk) ∧ cur.cell? ⟨b, 1, none⟩ = some (.int .i64 xi) ∧ cur.cell? ⟨b, 2, none⟩ = some (.int .i64 xu) ∧ cur.cell? ⟨b, 3, none⟩ = some (.string xs) ∧ cur.cell? ⟨b, 4, none⟩ = some (.int .i64 xa) ∧ cur.cell? ⟨b, 5, none⟩ = some (.bool xo) ∧
    cur.cell? ⟨g, q + 1, none⟩ = some (.int .i64 yk) ∧ cur.cell? ⟨g, q + 2, none⟩ = some (.int .i64 yi) ∧ cur.cell? ⟨g, q + 3, none⟩ = some (.int .i64 yu) ∧ cur.cell? ⟨g, q + 4, none⟩ = some (.string ys) ∧ cur.cell? ⟨g, q + 5, none⟩ = some (.int .i64 ya) ∧ cur.cell? ⟨g, q + 6, none⟩ = some (.bool yo) := by
  obtain ⟨k0, k1, k2, k3, k4, k5, k6⟩ := keep7 hp h hb
  exact ⟨k0, k1, k2, k3, k4, k5, k6, keepx h1 hb, keepx h2 hb, keepx h3 hb, keepx h4 hb, keepx h5 hb, keepx h6 hb⟩
theorem fk_mono {T : List Nat} {ok ok' : Nat → Prop} {w w1 : World} (h : Fk T ok w w1) (H : ∀ k, ok k → ok' k) : Fk T ok' w w1 := ⟨h.fr, h.kp.below, fun k hk hn => h.kp.same k hk (fun e => hn (H k e))⟩
set_option maxHeartbeats 8000000 in
set_option maxRecDepth 100000 in
theorem rAnswer_core (L : List Lt) (hg : Good L) (k i t : Int) (s : ByteArray) (a : Int) (o : Bool) (L1 : List Lt) (x1 : Lt) (b1 : Bool) (hr : answer L k i t a = (L1, x1, b1)) (ok : Nat → Prop) (p : Nat) (w : World) (hnr : ¬ ok (w.heap.size + 1)) (hok : ∀ k, w.heap.size ≤ k → k ≠ w.heap.size + 1 → ok k) (h : IsO 72 75 ok w p L) :
    Calls Try.prog 30 #[.pointer (some ⟨p, 0, none⟩), .agg #[.int .i64 k, .int .i64 i, .int .i64 t, .string s, .int .i64 a, .bool o]] w fun e w' =>
      e = .returned (.tuple #[.agg #[.int .i64 x1.to, .int .i64 x1.kind, .int .i64 x1.inst, .int .i64 x1.turn, .string x1.name, .int .i64 x1.att, .bool x1.ok], .bool b1]) ∧ IsO 72 75 ok w' p L1 ∧ Fk [72, 75] (fun k => ok k ∨ k = w.heap.size + 1) w w' := by
  obtain ⟨v, h⟩ := h
  obtain ⟨A, cap, rfl, hcap, hC⟩ := h.form
  have p0 := h.cell
  have hpl : p < w.heap.size := blk_lt h.blk
  have hl := hg.len
  obtain ⟨W, hW⟩ : ∃ W, (w.alloc (.cells #[.int .i64 k, .int .i64 i, .int .i64 t, .string s, .int .i64 a, .bool o] 28)).alloc (.cells #[.int .i64 0, .int .i64 0, .int .i64 0, .int .i64 0, .string ⟨#[]⟩, .int .i64 0, .bool false] 75) = W := ⟨_, rfl⟩
  have hBW : Below w.heap.size w W := by rw [← hW]; exact below_alloc (below_alloc (Below.refl _ _) _) _
  have hbW : W.heap[w.heap.size]? = some (.cells #[.int .i64 k, .int .i64 i, .int .i64 t, .string s, .int .i64 a, .bool o] 28 (0, 0)) := by rw [← hW]; exact blk_alloc (blk_new _ _) _
  have hrW : W.heap[w.heap.size + 1]? = some (.cells #[.int .i64 0, .int .i64 0, .int .i64 0, .int .i64 0, .string ⟨#[]⟩, .int .i64 0, .bool false] 75 (0, 0)) := by rw [← hW]; exact blk_new_at (by simp)
  have hrs : w.heap.size + 1 < W.heap.size := blk_lt hrW
  have h' := Aside0.mk h
  have hg' := Aside0.mk hg
  have hr' := Aside0.mk hr
  have hW' := Aside0.mk hW
  have hBW' := Aside0.mk hBW
  have hbW' := Aside0.mk hbW
  have hrW' := Aside0.mk hrW
  have hok' := Aside0.mk hok
  have hnr' := hnr
  have hO' := Aside0.mk (h.below hBW)
  have hcap' := Aside0.mk hcap
  clear hr h hC hW hBW hbW hrW hok hg hcap
  go_enter Try.func30, Try.ntmps30
  go_wp2_with fail
  rw [hW'.out]
  clear p0
  have p0 := hO'.out.cell
  go_loopg [13] (L.length + 1) (fun kq v13 w' => ∃ (j : Nat), v13 = .int .i64 (j : Int) ∧ Aside0 (kq + j = L.length + 1) ∧ Aside0 (j ≤ L.length) ∧ Aside0 (idx (fits k i t a) (L.drop j) j = find (fits k i t a) L) ∧ Aside0 (Below W.heap.size W w'))
  case atStart => exact ⟨0, rfl, ⟨by omega⟩, ⟨by omega⟩, ⟨rfl⟩, ⟨Below.refl _ _⟩⟩
  case round =>
    clear p0
    obtain ⟨j, rfl, hk, hj, hidx, hB⟩ := hrel
    have hOr := Aside0.mk (hO'.out.below hB.out)
    have hbr := Aside0.mk (blk_below hbW'.out hB.out)
    have hrr := Aside0.mk (blk_below hrW'.out hB.out)
    have hsr : W.heap.size ≤ wr.heap.size := hB.out.size
    have pr := hOr.out.cell
    have hpr : p < wr.heap.size := by omega
    by_cases hlt : j < L.length
    · have hd : decide ((j : Int) < (L.length : Int)) = true := decide_eq_true (by omega)
      have hd' : decide (j < L.length) = true := decide_eq_true hlt
      cases gk with
      | zero => exact absurd hk.out (by omega)
      | succ k1 =>
        have hlt' := Aside0.mk hlt
        obtain ⟨x, hq⟩ : ∃ x, L[j]? = some x := ⟨_, List.getElem?_eq_getElem hlt⟩
        obtain ⟨g, cap', eA, _, hgl, _⟩ := Kd.R_form hOr.out.row (by omega)
        cases eA
        obtain ⟨y0, y1, y2, y3, y4, y5, y6⟩ := el7 hOr.out.row hq
        have hst := idx_drop (fits k i t a) L j hq
        rw [hidx.out] at hst
        have hfc := Aside0.mk (rfits_calls x (hg'.out.kind x (List.mem_of_getElem? hq)) k i t s a o wr.drew)
        obtain ⟨fb, hfb⟩ : ∃ fb, fits k i t a x = fb := ⟨_, rfl⟩
        rw [hfb] at hst hfc
        have hst' := Aside0.mk hst
        have hq' := Aside0.mk hq
        obtain ⟨xt, xk, xi, xu, xs, xa, xo⟩ := x
        simp only [] at y0 y1 y2 y3 y4 y5 y6 hfc
        have y0' := Aside0.mk y0
        have hcut1 := cut75 L.length cap j g (by omega) hcap'.out
        have hcut1' := Aside0.mk hcut1
        clear hst hq hfb y0 hcut1
        cases fb with
        | false =>
          have e1 := hst'.out
          rw [if_neg (by decide)] at e1
          have e1' := Aside0.mk e1
          clear e1
          go_upto_region 4 with fail
          go_region_held3 (fun w' => w'.cell? ⟨p, 0, none⟩ = some (.slice (some ⟨g, 0, none⟩) L.length cap) ∧ w'.cell? ⟨w.heap.size, 0, none⟩ = some (.int .i64 k) ∧ w'.cell? ⟨w.heap.size, 1, none⟩ = some (.int .i64 i) ∧ w'.cell? ⟨w.heap.size, 2, none⟩ = some (.int .i64 t) ∧ w'.cell? ⟨w.heap.size, 3, none⟩ = some (.string s) ∧ w'.cell? ⟨w.heap.size, 4, none⟩ = some (.int .i64 a) ∧ w'.cell? ⟨w.heap.size, 5, none⟩ = some (.bool o) ∧
            w'.cell? ⟨g, j * 7 + 1, none⟩ = some (.int .i64 xk) ∧ w'.cell? ⟨g, j * 7 + 2, none⟩ = some (.int .i64 xi) ∧ w'.cell? ⟨g, j * 7 + 3, none⟩ = some (.int .i64 xu) ∧ w'.cell? ⟨g, j * 7 + 4, none⟩ = some (.string xs) ∧ w'.cell? ⟨g, j * 7 + 5, none⟩ = some (.int .i64 xa) ∧ w'.cell? ⟨g, j * 7 + 6, none⟩ = some (.bool xo))
            (refine keep13 pr hbr.out y1 y2 y3 y4 y5 y6 (by repeat (first | (with_reducible exact Below.refl _ _) | (with_reducible exact hB1.out) | (with_reducible refine below_drew ?_))))
            (first
              | (go_at_call 53; (with_reducible refine hfc.out.mono ?_); rintro e w1 ⟨rfl, hb1⟩; have hB1 : Aside0 (Below wr.heap.size wr w1) := ⟨(below_drew (Below.refl _ _)).trans hb1⟩; clear hb1)
              | fail)
          go_wp2
          go_roundg k1
          case measure => have := hk.out; omega
          case rel => exact ⟨j + 1, by go_num, ⟨by have := hk.out; omega⟩, ⟨by have := hlt'.out; omega⟩, ⟨e1'.out.symm⟩, ⟨below_step hB.out hB1.out⟩⟩
        | true =>
          have e1 := hst'.out
          rw [if_pos rfl] at e1
          have e2 := hr'.out
          unfold answer at e2
          rw [e1] at e2
          simp only [List.getD_eq_getElem?_getD, hq'.out, Option.getD_some, Prod.mk.injEq] at e2
          obtain ⟨rfl, rfl, rfl⟩ := e2
          clear e1
          go_upto_region 4 with fail
          go_region_held3 (fun w' => w'.cell? ⟨p, 0, none⟩ = some (.slice (some ⟨g, 0, none⟩) L.length cap) ∧ w'.cell? ⟨w.heap.size, 0, none⟩ = some (.int .i64 k) ∧ w'.cell? ⟨w.heap.size, 1, none⟩ = some (.int .i64 i) ∧ w'.cell? ⟨w.heap.size, 2, none⟩ = some (.int .i64 t) ∧ w'.cell? ⟨w.heap.size, 3, none⟩ = some (.string s) ∧ w'.cell? ⟨w.heap.size, 4, none⟩ = some (.int .i64 a) ∧ w'.cell? ⟨w.heap.size, 5, none⟩ = some (.bool o) ∧
            w'.cell? ⟨g, j * 7 + 1, none⟩ = some (.int .i64 xk) ∧ w'.cell? ⟨g, j * 7 + 2, none⟩ = some (.int .i64 xi) ∧ w'.cell? ⟨g, j * 7 + 3, none⟩ = some (.int .i64 xu) ∧ w'.cell? ⟨g, j * 7 + 4, none⟩ = some (.string xs) ∧ w'.cell? ⟨g, j * 7 + 5, none⟩ = some (.int .i64 xa) ∧ w'.cell? ⟨g, j * 7 + 6, none⟩ = some (.bool xo))
            (refine keep13 pr hbr.out y1 y2 y3 y4 y5 y6 (by repeat (first | (with_reducible exact Below.refl _ _) | (with_reducible exact hB1.out) | (with_reducible refine below_drew ?_))))
            (first
              | (go_at_call 53; (with_reducible refine hfc.out.mono ?_); rintro e w1 ⟨rfl, hb1⟩; have hB1 : Aside0 (Below wr.heap.size wr w1) := ⟨(below_drew (Below.refl _ _)).trans hb1⟩; clear hb1)
              | fail)
          have hO1 := Aside0.mk (hOr.out.below hB1.out)
          have hr1 := Aside0.mk (blk_below hrr.out hB1.out)
          have p1 := hO1.out.cell
          obtain ⟨z0, z1, z2, z3, z4, z5, z6⟩ := el7 hO1.out.row hq'.out
          simp only [] at z0 z1 z2 z3 z4 z5 z6
          have hs1 : wr.heap.size ≤ w1.heap.size := hB1.out.size
          have hg1 : g < w1.heap.size := by omega
          have hp1 : p < w1.heap.size := by omega
          clear y1 y2 y3 y4 y5 y6 pr
          go_upto_region 6 with fail
          refine wp_world (fun W hWx => ?_)
          have hB2 : Below w1.heap.size w1 W := by rw [hWx]; exact below_alloc (Below.refl _ _) _
          have hx2 : W.heap[w1.heap.size]? = some (.cells #[.int .i64 xt, .int .i64 xk, .int .i64 xi, .int .i64 xu, .string xs, .int .i64 xa, .bool xo] 75 (0, 0)) := by rw [hWx]; exact blk_new _ _
          have hO' := Aside0.mk (hO1.out.below hB2)
          have hr2 := Aside0.mk (blk_below hr1.out hB2)
          have hBB := Aside0.mk (below_step (below_step (below_step hBW'.out hB.out) hB1.out) hB2)
          have hsW : w1.heap.size < W.heap.size := blk_lt hx2
          have hok1' : Aside0 (∀ k, W.heap.size ≤ k → ok k ∧ k ≠ p) := ⟨fun k hk => ⟨hok'.out k (by omega) (by omega), by omega⟩⟩
          obtain ⟨hc1, A', c', hc2, hA'⟩ := hcut1'.out
          have hC2 := (Kd.R_reads' hO'.out.row).2.2
          have htl : (L.take j).length = j := by rw [List.length_take]; omega
          have hCt := Kd.C_take hC2 (m := j) (by omega)
          rw [htl] at hCt
          have hCd := Kd.C_drop hC2 (m := j + 1) (c := cap) (by omega) hcap'.out
          rw [← hA', List.length_drop] at hCd
          have hCt' := Aside0.mk hCt
          have hCd' := Aside0.mk hCd
          have htl' := Aside0.mk htl
          have hx2' := Aside0.mk hx2
          have p2 := hO'.out.cell
          have hpW : p < W.heap.size := by omega
          have hne1 : w1.heap.size ≠ p := by omega
          have hne2 : w.heap.size + 1 ≠ p := by omega
          have hwr : IntKind.i64.wrap ((j : Int) + 1) = (j : Int) + 1 := wrap_small j (by omega)
          clear hWx hB2 hx2 hC2 htl hCt hCd hA' p1 z0 z1 z2 z3 z4 z5 z6
          go_cut [] (fun wx => Aside0 (IsO 72 75 ok wx p (L.eraseIdx j)) ∧ Aside0 (Fk [72, 75] ok W wx) ∧ Aside0 (wx.heap[w1.heap.size]? = some (.cells #[.int .i64 xt, .int .i64 xk, .int .i64 xi, .int .i64 xu, .string xs, .int .i64 xa, .bool xo] 75 (0, 0))) ∧ Aside0 (wx.heap[w.heap.size + 1]? = some (.cells #[.int .i64 0, .int .i64 0, .int .i64 0, .int .i64 0, .string ⟨#[]⟩, .int .i64 0, .bool false] 75 (0, 0))))
          case first =>
            refine start_ (n := 20) (S := fun w' => w'.cell? ⟨p, 0, none⟩ = some (.slice (some ⟨g, 0, none⟩) L.length cap)) (ds := [19]) #[false, false, false, false, false, false, false, false, false, false, false, false, false, false, false, false, false, false, false, false] (by kernel_rfl) rfl rfl (keepx p2 (below_drew (Below.refl _ _))) (fun hHeld => ?_)
            refine pure_ (i := 0) (N := (some 33)) (v := ?_) (a' := ?_) #[true, false, false, false, false, false, false, false, false, false, false, false, false, false, false, false, false, false, false, false] rfl rfl (by kernel_rfl) (fun _ _ _ h => h) (Or.inl ⟨by rfl, ?_⟩) ?_ ?_
            rotate_left
            · intro w'
              go_simp
              with_reducible rfl
            rotate_left
            · simp only [Act.put, List.setIfInBounds_toArray, List.set_cons_zero, List.set_cons_succ, i64_w, i32_w]
              rfl
            refine pure_ (i := 2) (N := (some 35)) (v := ?_) (a' := ?_) #[true, false, true, false, false, false, false, false, false, false, false, false, false, false, false, false, false, false, false, false] rfl rfl (by kernel_rfl) (fun _ _ _ h => h) (Or.inl ⟨by rfl, ?_⟩) ?_ ?_
            rotate_left
            · intro w'
              go_simp
              with_reducible rfl
            rotate_left
            · simp only [Act.put, List.setIfInBounds_toArray, List.set_cons_zero, List.set_cons_succ, i64_w, i32_w]
              rfl
            refine pure_ (i := 3) (N := (some 36)) (v := ?_) (a' := ?_) #[true, false, true, true, false, false, false, false, false, false, false, false, false, false, false, false, false, false, false, false] rfl rfl (by kernel_rfl) (fun _ _ _ h => h) (Or.inl ⟨by rfl, ?_⟩) ?_ ?_
            rotate_left
            · intro w'
              go_simp
              with_reducible rfl
            rotate_left
            · simp only [Act.put, List.setIfInBounds_toArray, List.set_cons_zero, List.set_cons_succ, i64_w, i32_w]
              rfl
            refine pure_ (i := 4) (N := (some 37)) (v := ?_) (a' := ?_) #[true, false, true, true, true, false, false, false, false, false, false, false, false, false, false, false, false, false, false, false] rfl rfl (by kernel_rfl) (fun _ _ _ h => h) (Or.inl ⟨by rfl, ?_⟩) ?_ ?_
            rotate_left
            · intro w'
              go_simp
              with_reducible rfl
            rotate_left
            · simp only [Act.put, List.setIfInBounds_toArray, List.set_cons_zero, List.set_cons_succ, i64_w, i32_w]
              rfl
            refine take_ (i := 5) (N := (some 38)) (v := ?_) (a' := ?_) #[true, false, true, true, true, true, false, false, false, false, false, false, false, false, false, false, false, false, false, false] rfl rfl (by kernel_rfl) (fun _ _ _ h => h) (Or.inl ⟨by rfl, ?_⟩) hHeld ?_ ?_
            rotate_left
            · rintro w' s0
              go_simp
              with_reducible rfl
            rotate_left
            · simp only [Act.put, List.setIfInBounds_toArray, List.set_cons_zero, List.set_cons_succ, i64_w, i32_w]
              rfl
            refine pure_ (i := 6) (N := (some 39)) (v := ?_) (a' := ?_) #[true, false, true, true, true, true, true, false, false, false, false, false, false, false, false, false, false, false, false, false] rfl rfl (by kernel_rfl) (fun _ _ _ h => h) (Or.inl ⟨by rfl, ?_⟩) ?_ ?_
            rotate_left
            · intro w'
              go_simp
              with_reducible rfl
            rotate_left
            · simp only [Act.put, List.setIfInBounds_toArray, List.set_cons_zero, List.set_cons_succ, i64_w, i32_w]
              rfl
            refine pure_ (i := 7) (N := (some 40)) (v := ?_) (a' := ?_) #[true, false, true, true, true, true, true, true, false, false, false, false, false, false, false, false, false, false, false, false] rfl rfl (by kernel_rfl) (fun _ _ _ h => h) (Or.inl ⟨by rfl, ?_⟩) ?_ ?_
            rotate_left
            · intro w'
              go_simp
              with_reducible rfl
            rotate_left
            · simp only [Act.put, List.setIfInBounds_toArray, List.set_cons_zero, List.set_cons_succ, i64_w, i32_w]
              rfl
            refine pure_ (i := 9) (N := (some 42)) (v := ?_) (a' := ?_) #[true, false, true, true, true, true, true, true, false, true, false, false, false, false, false, false, false, false, false, false] rfl rfl (by kernel_rfl) (fun _ _ _ h => h) (Or.inl ⟨by rfl, ?_⟩) ?_ ?_
            rotate_left
            · intro w'
              go_simp
              with_reducible rfl
            rotate_left
            · simp only [Act.put, List.setIfInBounds_toArray, List.set_cons_zero, List.set_cons_succ, i64_w, i32_w]
              rfl
            refine pure_ (i := 10) (N := (some 43)) (v := ?_) (a' := ?_) #[true, false, true, true, true, true, true, true, false, true, true, false, false, false, false, false, false, false, false, false] rfl rfl (by kernel_rfl) (fun _ _ _ h => h) (Or.inl ⟨by rfl, ?_⟩) ?_ ?_
            rotate_left
            · intro w'
              go_simp
              with_reducible rfl
            rotate_left
            · simp only [Act.put, List.setIfInBounds_toArray, List.set_cons_zero, List.set_cons_succ, i64_w, i32_w]
              rfl
            refine pure_ (i := 11) (N := (some 44)) (v := ?_) (a' := ?_) #[true, false, true, true, true, true, true, true, false, true, true, true, false, false, false, false, false, false, false, false] rfl rfl (by kernel_rfl) (fun _ _ _ h => h) (Or.inl ⟨by rfl, ?_⟩) ?_ ?_
            rotate_left
            · intro w'
              go_simp
              with_reducible rfl
            rotate_left
            · simp only [Act.put, List.setIfInBounds_toArray, List.set_cons_zero, List.set_cons_succ, i64_w, i32_w]
              rfl
            refine take_ (i := 12) (N := (some 45)) (v := ?_) (a' := ?_) #[true, false, true, true, true, true, true, true, false, true, true, true, true, false, false, false, false, false, false, false] rfl rfl (by kernel_rfl) (fun _ _ _ h => h) (Or.inl ⟨by rfl, ?_⟩) hHeld ?_ ?_
            rotate_left
            · rintro w' s0
              go_simp
              with_reducible rfl
            rotate_left
            · simp only [Act.put, List.setIfInBounds_toArray, List.set_cons_zero, List.set_cons_succ, i64_w, i32_w]
              rfl
            refine pure_ (i := 13) (N := (some 46)) (v := ?_) (a' := ?_) #[true, false, true, true, true, true, true, true, false, true, true, true, true, true, false, false, false, false, false, false] rfl rfl (by kernel_rfl) (fun _ _ _ h => h) (Or.inl ⟨by rfl, ?_⟩) ?_ ?_
            rotate_left
            · intro w'
              go_simp
              with_reducible rfl
            rotate_left
            · simp only [Act.put, List.setIfInBounds_toArray, List.set_cons_zero, List.set_cons_succ, i64_w, i32_w]
              rfl
            refine pure_ (i := 14) (N := (some 47)) (v := ?_) (a' := ?_) #[true, false, true, true, true, true, true, true, false, true, true, true, true, true, true, false, false, false, false, false] rfl rfl (by kernel_rfl) (fun _ _ _ h => h) (Or.inl ⟨by rfl, ?_⟩) ?_ ?_
            rotate_left
            · intro w'
              go_simp
              with_reducible rfl
            rotate_left
            · simp only [Act.put, List.setIfInBounds_toArray, List.set_cons_zero, List.set_cons_succ, i64_w, i32_w]
              rfl
            refine pure_ (i := 15) (N := (some 48)) (v := ?_) (a' := ?_) #[true, false, true, true, true, true, true, true, false, true, true, true, true, true, true, true, false, false, false, false] rfl rfl (by kernel_rfl) (fun _ _ _ h => h) (Or.inl ⟨by rfl, ?_⟩) ?_ ?_
            rotate_left
            · intro w'
              go_simp
              with_reducible rfl
            rotate_left
            · simp only [Act.put, List.setIfInBounds_toArray, List.set_cons_zero, List.set_cons_succ, i64_w, i32_w]
              rfl
            refine one_ (i := 1) (N := (some 34)) #[true, true, true, true, true, true, true, true, false, true, true, true, true, true, true, true, false, false, false, false] rfl rfl (by kernel_rfl) (by decide) (fun K hK => ?_)
            go_simp
            refine hK.out _ _ (keepx p2 (by repeat (first | (with_reducible exact Below.refl _ _) | (with_reducible exact hB3.out) | (with_reducible exact hB4.out) | (with_reducible exact hF3) | (with_reducible refine below_drew ?_) | (with_reducible refine below_alloc ?_ _)))) (fun hHeld => ?_)
            clear hK K
            refine one_ (i := 8) (N := (some 41)) #[true, true, true, true, true, true, true, true, true, true, true, true, true, true, true, true, false, false, false, false] rfl rfl (by kernel_rfl) (by decide) (fun K hK => ?_)
            refine Kd.R_append_rows_step kLt (w0 := W) 0 (by rfl) (.tmp 34) (.tmp 40) 70 75 _ 64 (by rfl) Try.underlying70 infoLt75 rfl (by decide) (by decide) _ [] (L.take j) (some ⟨g, 0, none⟩) j cap (fun k => ok k ∧ k ≠ p) (fun _ => False) (by rfl) (by rfl) (R_mtk kLt (by repeat (first | (with_reducible exact blk_new_at (by simp)) | (with_reducible refine blk_alloc ?_ _) | (with_reducible refine blk_drew ?_))) (Nat.zero_le _) (hok1'.out _ (by first | omega | (simp; omega)))) (Kd.C_below hCt'.out (by repeat (first | (with_reducible exact Below.refl _ _) | (with_reducible exact hB3.out) | (with_reducible exact hB4.out) | (with_reducible exact hF3) | (with_reducible refine below_drew ?_) | (with_reducible refine below_alloc ?_ _)))) (fun x cs hx => by rw [kLt_open hx]; exact kLt_mk _ _ _ x) (fun _ hk => hk.elim) (fun k hk => hok1'.out k (by simp at hk; omega)) (below0 (by repeat (first | (with_reducible exact Below.refl _ _) | (with_reducible exact hB3.out) | (with_reducible exact hB4.out) | (with_reducible exact hF3) | (with_reducible refine below_drew ?_) | (with_reducible refine below_alloc ?_ _)))) (Nat.zero_le _) (by simp; omega) ?_
            intro v3 w3 hR3 _ hg3 hat3
            rw [List.nil_append] at hR3
            have hB3 : Aside0 (Below W.heap.size W w3) := ⟨pw_below_grown (by repeat (first | (with_reducible exact Below.refl _ _) | (with_reducible exact hB3.out) | (with_reducible exact hB4.out) | (with_reducible exact hF3) | (with_reducible refine below_drew ?_) | (with_reducible refine below_alloc ?_ _))) _ (by simp <;> omega) hg3 (fun k e => by simp [Value.ownBlock] at e; omega)⟩
            have hfr3 : Aside0 (∀ k, v3.ownBlock = some k → W.heap.size ≤ k) := ⟨fun k e => by
              rcases hat3 with e1 | ⟨b, e1, hb⟩
              · rw [e1] at e; simp [Value.ownBlock] at e; omega
              · rw [e1] at e; cases e; simp at hb; omega⟩
            have hR3' := Aside0.mk hR3
            have hs3 : W.heap.size ≤ w3.heap.size := hB3.out.size
            refine hK.out _ _ (keepx p2 (by repeat (first | (with_reducible exact Below.refl _ _) | (with_reducible exact hB3.out) | (with_reducible exact hB4.out) | (with_reducible exact hF3) | (with_reducible refine below_drew ?_) | (with_reducible refine below_alloc ?_ _)))) (fun hHeld => ?_)
            clear hK K
            refine norm_ (a' := Act.put _ (some 41) v3) (by rfl) ?_
            refine one_ (i := 16) (N := (some 49)) #[true, true, true, true, true, true, true, true, true, true, true, true, true, true, true, true, true, false, false, false] rfl rfl (by kernel_rfl) (by decide) (fun K hK => ?_)
            refine Kd.R_append_rows_step kLt (w0 := w3) 0 (by rfl) (.tmp 41) (.tmp 48) 70 75 _ 64 (by rfl) Try.underlying70 infoLt75 rfl (by decide) (by decide) v3 (L.take j) (L.drop (j + 1)) A' (L.length - (j + 1)) c' (fun k => ok k ∧ k ≠ p) (fun _ => False) (by rfl) (by rfl) hR3'.out (Kd.C_below hCd'.out hB3.out) (fun x cs hx => by rw [kLt_open hx]; exact kLt_mk _ _ _ x) (fun _ hk => hk.elim) (fun k hk => hok1'.out k (by omega)) (Below.refl _ _) (Nat.zero_le _) (by rw [htl'.out]; omega) ?_
            intro v5 w5 hR5 _ hg5 _
            rw [← List.eraseIdx_eq_take_drop_succ] at hR5
            obtain ⟨A5, c5, e5⟩ := Kd.R_slice hR5
            subst e5
            have hB4 : Aside0 (Below W.heap.size W w5) := ⟨pw_below_grown hB3.out _ (by omega) hg5 (fun k e => hfr3.out k e)⟩
            have hp5 := blk_below hO'.out.blk hB4.out
            have p5 : w5.cell? ⟨p, 0, none⟩ = some (.slice (some ⟨g, 0, none⟩) L.length cap) := (blk_cell hp5 0).trans rfl
            have f5 : w5.frozen? ⟨p, 0, none⟩ = false := blk_frozen hp5 0
            have hfin := Aside0.mk (hO'.out.store hp5 hR5)
            have hfk := Aside0.mk ((Fk.of_below (T := [72, 75]) (ok := ok) hB4.out).set hp5 (by simp) hO'.out.pk 0 (.slice A5 (L.eraseIdx j).length c5))
            clear hR5 hg5
            refine hK.out _ _ (keepx p2 (by repeat (first | (with_reducible exact Below.refl _ _) | (with_reducible exact hB3.out) | (with_reducible exact hB4.out) | (with_reducible exact hF3) | (with_reducible refine below_drew ?_) | (with_reducible refine below_alloc ?_ _)))) (fun hHeld => ?_)
            clear hK K
            refine pure_ (i := 17) (N := (some 50)) (v := ?_) (a' := ?_) #[true, true, true, true, true, true, true, true, true, true, true, true, true, true, true, true, true, true, false, false] rfl rfl (by kernel_rfl) (fun _ _ _ h => h) (Or.inl ⟨by rfl, ?_⟩) ?_ ?_
            rotate_left
            · intro w'
              go_simp
              with_reducible rfl
            rotate_left
            · simp only [Act.put, List.setIfInBounds_toArray, List.set_cons_zero, List.set_cons_succ, i64_w, i32_w]
              rfl
            refine pure_ (i := 18) (N := (some 51)) (v := ?_) (a' := ?_) #[true, true, true, true, true, true, true, true, true, true, true, true, true, true, true, true, true, true, true, false] rfl rfl (by kernel_rfl) (fun _ _ _ h => h) (Or.inl ⟨by rfl, ?_⟩) ?_ ?_
            rotate_left
            · intro w'
              go_simp
              with_reducible rfl
            rotate_left
            · simp only [Act.put, List.setIfInBounds_toArray, List.set_cons_zero, List.set_cons_succ, i64_w, i32_w]
              rfl
            refine last_ (i := 19) (N := none) #[true, true, true, true, true, true, true, true, true, true, true, true, true, true, true, true, true, true, true, true] rfl rfl (by kernel_rfl) (by decide) (fun K hK => ?_)
            have s0 := hHeld
            go_simp
            refine hK.out _ _ ?_
            clear hK K
            refine done_ (by kernel_rfl) ?_
            go_wp2_with fail
            go_meet
            exact ⟨⟨⟨_, hfin.out⟩⟩, ⟨hfk.out⟩, ⟨blk_far (blk_below hx2'.out hB4.out) (p := ⟨p, 0, none⟩) hne1 _⟩, ⟨blk_far (blk_below hr2.out hB4.out) (p := ⟨p, 0, none⟩) hne2 _⟩⟩
          case rest =>
            obtain ⟨h5, h6, h7, h8⟩ := hcut
            obtain ⟨z0, z1, z2, z3, z4, z5, z6⟩ := el_blk75 h8.out
            obtain ⟨u0, u1, u2, u3, u4, u5, u6⟩ := el_blk75 h7.out
            have yz := fun q => blk_frozen h8.out q
            have hsx : W.heap.size ≤ wc.heap.size := h6.out.size
            clear p2 hc1 hc2 hwr
            go_wp2
            refine bodyPost_ret (v := .tuple #[.agg #[.int .i64 xt, .int .i64 xk, .int .i64 xi, .int .i64 xu, .string xs, .int .i64 xa, .bool xo], .bool true]) (by simp [results, Try.results30, go_sem, z0, z1, z2, z3, z4, z5, z6]) rfl ⟨rfl, ?_, ?_⟩
            · obtain ⟨v5, hO4⟩ := h5.out
              refine ⟨v5, ?_⟩
              repeat (first | (with_reducible exact hO4) | (with_reducible refine OAt.far ?_ hnr' _ _))
            · have hok1 : ok (w.heap.size + 1) ∨ w.heap.size + 1 = w.heap.size + 1 := .inr rfl
              have hk3 : Fk [72, 75] (fun k => ok k ∨ k = w.heap.size + 1) w wc := (Fk.of_below hBB.out).trans (fk_mono h6.out (fun k hk => .inl hk))
              repeat (first | (with_reducible exact hk3) | (with_reducible refine Fk.set_new ?_ (by omega) hok1 _ _))
    · have hd : decide ((j : Int) < (L.length : Int)) = false := decide_eq_false (by omega)
      have hd' : decide (j < L.length) = false := decide_eq_false hlt
      have e1 := hidx.out
      rw [List.drop_eq_nil_of_le (by omega)] at e1
      have e2 := hr'.out
      unfold answer at e2
      rw [← e1] at e2
      simp only [idx, Prod.mk.injEq] at e2
      obtain ⟨rfl, rfl, rfl⟩ := e2
      obtain ⟨z0, z1, z2, z3, z4, z5, z6⟩ := el_blk75 hrr.out
      have hb2 : Below w.heap.size w wr := below_step hBW'.out hB.out
      have yz := fun q => blk_frozen hrr.out q
      have hne3 : p ≠ w.heap.size + 1 := by omega
      clear e1
      go_wp2
      refine bodyPost_ret (v := .tuple #[.agg #[.int .i64 0, .int .i64 0, .int .i64 0, .int .i64 0, .string ⟨#[]⟩, .int .i64 0, .bool false], .bool false]) (by simp [results, Try.results30, go_sem, z0, z1, z2, z3, z4, z5, z6]) rfl ⟨rfl, ?_, ?_⟩
      · have hO4 := hOr.out
        refine ⟨.slice A L.length cap, ?_⟩
        repeat (first | (with_reducible exact hO4) | (with_reducible refine OAt.far ?_ hnr' _ _))
      · have hok1 : ok (w.heap.size + 1) ∨ w.heap.size + 1 = w.heap.size + 1 := .inr rfl
        have hk3 : Fk [72, 75] (fun k => ok k ∨ k = w.heap.size + 1) w wr := Fk.of_below hb2
        repeat (first | (with_reducible exact hk3) | (with_reducible refine Fk.set_new ?_ (by omega) hok1 _ _))
theorem rAnswer_calls (L : List Lt) (hg : Good L) (k i t : Int) (s : ByteArray) (a : Int) (o : Bool) (L1 : List Lt) (x1 : Lt) (b1 : Bool) (hr : answer L k i t a = (L1, x1, b1)) (ok : Nat → Prop) (p : Nat) (w : World) (hok : ∀ k, w.heap.size ≤ k → ok k) (h : IsO 72 75 ok w p L) :
    Calls Try.prog 30 #[.pointer (some ⟨p, 0, none⟩), .agg #[.int .i64 k, .int .i64 i, .int .i64 t, .string s, .int .i64 a, .bool o]] w fun e w' =>
      e = .returned (.tuple #[.agg #[.int .i64 x1.to, .int .i64 x1.kind, .int .i64 x1.inst, .int .i64 x1.turn, .string x1.name, .int .i64 x1.att, .bool x1.ok], .bool b1]) ∧ IsO 72 75 ok w' p L1 ∧ Fk [72, 75] ok w w' := by
  refine (rAnswer_core L hg k i t s a o L1 x1 b1 hr (fun k => ok k ∧ k ≠ w.heap.size + 1) p w (fun h => h.2 rfl) (fun k hk hne => ⟨hok k hk, hne⟩) (h.refoot (fun k hk hl => ⟨hk, by omega⟩))).mono ?_
  rintro e w' ⟨rfl, h1, h2⟩
  exact ⟨rfl, h1.refoot (fun k hk _ => hk.1), fk_mono h2 (fun k hk => by
    rcases hk with hk | hk
    · exact hk.1
    · exact hok k (by omega))⟩
end Go.Proofs.Ytdglbiafpofeeaa.Obx
