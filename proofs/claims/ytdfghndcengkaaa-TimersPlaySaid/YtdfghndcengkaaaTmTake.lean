/- Take, walked. -/
import Derived.Test.YtdfghndcengkaaaTmSort
namespace Go.Proofs.Ytdfghndcengkaaa.Tmr
open Go.RowKit Go.Proofs.YtdfghndcengkaaaW.PrintWords Go.Proofs.YtdfghndcengkaaaW.PrintLast Go.Proofs.YtdfghndcengkaaaW.PrintMore Go.Proofs.Ytdfghndcengkaaa.PTimersPlay
open Amap Frm Go.Shelf
set_option linter.unusedVariables false
set_option linter.unusedSimpArgs false
theorem info9 : (Try.prog.info? 9).map (fun i => (i.zero, i.size, i.bytes)) = some (some (.string ⟨#[]⟩), 1, 16) := by kernel_rfl
theorem rd_at {L : List ByteArray} {i : Nat} (h : i < L.length) : rdOf ByteArray.empty L (i : Int) = L[i] := by
  unfold rdOf
  simp [List.getD_eq_getElem?_getD, List.getElem?_eq_getElem h]
theorem snoc_filter (D : Tms) (k : ByteArray) (d now : Int) : ((D ++ [(k, d)]).filter (early now)).map (·.1) = if d ≤ now then (D.filter (early now)).map (·.1) ++ [k] else (D.filter (early now)).map (·.1) := by
  rw [List.filter_append, List.map_append]
  split
  · rename_i h; simp [early, h]
  · rename_i h; simp [early, h]
def Took (T : Tms) (ok : Nat → Prop) (p : Nat) (now : Int) (w w' : World) (e : Ending) : Prop :=
  ∃ (D : Tms) (A : Option Addr) (cap : Nat), D.Perm (T.filter (early now)) ∧ D.Pairwise (fun x y => ¬ tlt y x) ∧ e = .returned (.slice A D.length cap) ∧ Kd.R Kd.string 9 w' w.heap.size (fun k => w.heap.size ≤ k) (.slice A D.length cap) (D.map (·.1)) ∧ IsT ok w' p (ttake T now) ∧ Fz ok w w'
set_option maxHeartbeats 4000000 in
set_option maxRecDepth 100000 in
theorem Take_none (ok : Nat → Prop) (p : Nat) (w : World) (now : Int) (h : TAt ok w p [] none) : Calls Try.prog 12 #[.pointer (some ⟨p, 0, none⟩), .int .i64 now] w fun e w' => Took [] ok p now w w' e := by
  have hb := below_alloc (Below.refl w.heap.size w) (.cells #[.pointer (some ⟨p, 0, none⟩)] 25)
  have c0 := (h.below hb).cell
  obtain ⟨W1, hW1⟩ : ∃ W1, w.alloc (.cells #[.pointer (some ⟨p, 0, none⟩)] 25) = W1 := ⟨_, rfl⟩
  have hr := run_range_nilMap (P := Try.prog) W1 31 9 2 Try.underlying31
  have hnx := run_next_nilMap (P := Try.prog) W1 0 0 0 #[]
  have hs1 : W1.heap.size = w.heap.size + 1 := by rw [← hW1]; simp
  rw [hs1, ← hW1] at hr hnx
  have h' := Aside0.mk h
  clear h hs1 hW1 hb
  go_enter Try.func12, Try.ntmps12
  go_wp2_with fail
  refine wp_loop_rounds 1 ?_
  rw [rounds_succ]
  go_wp2_with (first | (go_at_call 19; (with_reducible refine (sort_none none 0 _ _).mono ?_); rintro e w' ⟨rfl, rfl⟩) | go_in)
  refine wp_loop_rounds 1 ?_
  rw [rounds_succ]
  go_wp2
  go_ret
  have hB : Below w.heap.size w ((w.alloc (.cells #[.pointer (some ⟨p, 0, none⟩)] 25)).alloc (.mapIter none 0 #[] 0)) := (below_alloc (Below.refl w.heap.size w) _).alloc (by simp) _
  exact ⟨[], none, 0, List.Perm.refl _, List.Pairwise.nil, rfl, Kd.R_nil _ _ _ _ _, ⟨none, h'.out.below hB⟩, Fz.of_below hB _⟩
theorem TAt.nd' {ok : Nat → Prop} {w : World} {p b : Nat} {T : Tms} (h : TAt ok w p T (some b)) : nd T := by
  obtain ⟨es, c, _, _, _, hn, _⟩ := (h.map b rfl).2
  exact hn
theorem TAt.dom {ok : Nat → Prop} {w : World} {p b : Nat} {T : Tms} (h : TAt ok w p T (some b)) : ∀ q ∈ T, domS q.1 := by
  obtain ⟨es, c, _, _, hd, _, _⟩ := (h.map b rfl).2
  exact hd
theorem R_box {w : World} {base : Nat} {okr : Nat → Prop} {v : Value} {Ks : List ByteArray} (hR : Kd.R Kd.string 9 w base okr v Ks) {g t : Nat} {cs : Array Value} (hg : w.heap[g]? = some (.cells cs t (0, 0))) (ht : t ≠ 9) : ∀ k, v.ownBlock = some k → g ≠ k := fun k hk e => by
  obtain ⟨c, hc⟩ := Kd.R_typed hR k hk
  rw [← e, hg] at hc
  injection hc with hc
  injection hc with h1 h2
  exact ht h2
theorem R_it {w : World} {base r b : Nat} {okr : Nat → Prop} {v : Value} {Ks : List ByteArray} {T D : Tms} (hR : Kd.R Kd.string 9 w base okr v Ks) (hi : It w r b T D) : ∀ k, v.ownBlock = some k → k ≠ r ∧ k ≠ b := fun k hk => by
  obtain ⟨c, hc⟩ := Kd.R_typed hR k hk
  exact hi.far hc
set_option maxHeartbeats 8000000 in
set_option maxRecDepth 100000 in
theorem Take_some (T : Tms) (b : Nat) (ok : Nat → Prop) (p : Nat) (w : World) (now : Int) (h : TAt ok w p T (some b)) (hl : T.length ≤ 200) : Calls Try.prog 12 #[.pointer (some ⟨p, 0, none⟩), .int .i64 now] w fun e w' => Took T ok p now w w' e := by
  obtain ⟨W1, hW1⟩ : ∃ W1, w.alloc (.cells #[.pointer (some ⟨p, 0, none⟩)] 25) = W1 := ⟨_, rfl⟩
  have hb1 : Below w.heap.size w W1 := by rw [← hW1]; exact below_alloc (Below.refl _ _) _
  have hs1 : W1.heap.size = w.heap.size + 1 := by rw [← hW1]; simp
  have hx1 : W1.heap[w.heap.size]? = some (.cells #[.pointer (some ⟨p, 0, none⟩)] 25 (0, 0)) := by rw [← hW1]; exact blk_new _ _
  have h1 := h.below hb1
  have c0 := h1.cell
  obtain ⟨w1, hr, hit, hbb, hsz⟩ := It.start (h1.map b rfl).2
  rw [hs1] at hit hr
  have hB1 : Aside0 (Below w.heap.size w w1) := ⟨hb1.trans (hbb.mono (by omega))⟩
  have hX1 : Aside0 (w1.heap[w.heap.size]? = some (.cells #[.pointer (some ⟨p, 0, none⟩)] 25 (0, 0))) := ⟨(hbb.block _ (by omega)).trans hx1⟩
  have hit' := Aside0.mk hit
  have hnd := Aside0.mk h.nd'
  have hdom := Aside0.mk h.dom
  have h' := Aside0.mk h
  obtain ⟨N, hN⟩ : ∃ N, T.length = N := ⟨_, rfl⟩
  have hN' := Aside0.mk hN
  rw [hN] at hl
  rw [← hW1] at hr c0
  have hw1 := Aside0.mk hW1
  clear hW1 hb1 hs1 hx1 h1 hit hbb hsz h hN
  go_enter Try.func12, Try.ntmps12
  go_wp2_with fail
  go_loopg [5] (N + 1) (fun kq v5 wr => ∃ (D : Tms) (A : Option Addr) (cap : Nat) (Ks : List ByteArray), v5 = .slice A Ks.length cap ∧ Aside0 (Ks = (D.filter (early now)).map (·.1)) ∧ Aside0 (Kd.R Kd.string 9 wr w.heap.size (fun k => w.heap.size ≤ k) (.slice A Ks.length cap) Ks) ∧ Aside0 (It wr (w.heap.size + 1) b T D) ∧ Aside0 (kq + D.length = N + 1) ∧ Aside0 (Below w.heap.size w wr) ∧ Aside0 (wr.heap[w.heap.size]? = some (.cells #[.pointer (some ⟨p, 0, none⟩)] 25 (0, 0))))
  case atStart => exact ⟨[], none, 0, [], rfl, ⟨rfl⟩, ⟨Kd.R_nil _ _ _ _ _⟩, hit', ⟨rfl⟩, hB1, hX1⟩
  case round =>
    obtain ⟨D, A, cap, Ks, rfl, hKs, hR, hi, hk, hB, hX⟩ := hrel
    clear hr c0 hB1 hX1 hit' hw1
    rcases hi.out.next 0 with ⟨hp, hrun⟩ | ⟨k, d, w2, hm, hrun, hent, hit2, hlt, hg2⟩
    · have hp' := Aside0.mk hp
      clear hp hk
      have hT := h'.out.below hB.out
      have cb := (blk_cell hX.out 0).trans rfl
      have hKd : ∀ q ∈ Ks, domS q := fun q hq => by
        rw [hKs.out] at hq
        obtain ⟨x, hx, rfl⟩ := List.mem_map.1 hq
        exact hdom.out x (hp'.out.mem_iff.1 (List.mem_filter.1 hx).1)
      have hKl : Ks.length ≤ N := by
        rw [hKs.out, List.length_map, ← hN'.out, ← hp'.out.length_eq]
        exact List.length_filter_le _ _
      have hIs : IsT (fun k => ok k ∧ k < w.heap.size) wr p T := (IsT.refoot (ok' := fun k => ok k ∧ k < w.heap.size) ⟨_, h'.out⟩ (fun k hk hl => ⟨hk, hl⟩)).below hB.out
      have hsrt := Aside0.mk (Sort_calls T _ p w.heap.size wr hIs cb w.heap.size _ A cap Ks hR.out hKd (fun k hk => ⟨fun e => by have := hR.out.1 k hk; simp only [] at this; omega, R_box hR.out hX.out (by decide) k hk⟩) (by omega))
      clear hT cb hKd hIs hi
      go_wp2_with (first
        | (go_at_call 19; (with_reducible refine hsrt.out.mono ?_); rintro e w3 ⟨rfl, Ks', hp3, hl3, hs3, hR3, hg3⟩; rw [← hl3]; have hR3' := Aside0.mk hR3; have hg3' := Aside0.mk hg3; have hp3' := Aside0.mk hp3; have hs3' := Aside0.mk hs3; have hl3' := Aside0.mk hl3; clear hR3 hg3 hp3 hs3 hl3 hsrt)
        | go_in)
      have hB3 : Aside0 (Below w.heap.size w w3) := ⟨hB.out.grown hg3'.out hB.out.size (fun k hk => hR.out.1 k hk)⟩
      have hX3 : Aside0 (w3.heap[w.heap.size]? = some (.cells #[.pointer (some ⟨p, 0, none⟩)] 25 (0, 0))) := ⟨(hg3'.out.block _ (blk_lt hX.out) (fun e => R_box hR.out hX.out (by decide) w.heap.size e.symm rfl)).trans hX.out⟩
      have hR4 : Aside0 (Kd.R Kd.string 9 w3 w.heap.size (fun k => w.heap.size ≤ k) (.slice A Ks'.length cap) Ks') := ⟨by rw [hl3'.out]; exact hR3'.out⟩
      obtain ⟨D', hD1, hD2, hD3⟩ := pairs_of hnd.out now hp'.out hKs.out hp3'.out hs3'.out
      have hD1' := Aside0.mk hD1
      have hD2' := Aside0.mk hD2
      have hD3' := Aside0.mk hD3
      have hT3 := Aside0.mk (h'.out.below hB3.out)
      have hF3 := Aside0.mk (Fz.of_below hB3.out ok)
      have hK3 : Ks'.length ≤ 200 := by rw [hl3'.out]; omega
      have hd3 : Aside0 (∀ q ∈ Ks', domS q) := ⟨fun q hq => by
        rw [← hD2'.out] at hq
        obtain ⟨x, hx, rfl⟩ := List.mem_map.1 hq
        exact hdom.out x (List.mem_filter.1 (hD1'.out.mem_iff.1 hx)).1⟩
      clear hR hB hX hR3' hg3' hp3' hs3' hl3' hD1 hD2 hD3 hp' hKs hKl hB3
      go_loopg [34] (Ks'.length + 1) (fun kq v34 wr => ∃ (i : Nat), v34 = .int .i64 (i : Int) ∧ Aside0 (kq + i = Ks'.length + 1) ∧ Aside0 (i ≤ Ks'.length) ∧ Aside0 (TAt ok wr p (drops T (Ks'.take i)) (some b)) ∧ Aside0 (Fz ok w wr) ∧ Aside0 (Kd.R Kd.string 9 wr w.heap.size (fun k => w.heap.size ≤ k) (.slice A Ks'.length cap) Ks') ∧ Aside0 (wr.heap[w.heap.size]? = some (.cells #[.pointer (some ⟨p, 0, none⟩)] 25 (0, 0))))
      case atStart => exact ⟨0, rfl, ⟨by omega⟩, ⟨by omega⟩, ⟨by rw [List.take_zero, drops_nil]; exact hT3.out⟩, hF3, hR4, hX3⟩
      case round =>
        obtain ⟨i, rfl, hk, hi, hT, hF, hR, hX⟩ := hrel
        clear hT3 hF3 hR4 hX3
        by_cases hlt : i < Ks'.length
        · have hd : decide ((i : Int) < (Ks'.length : Int)) = true := decide_eq_true (by omega)
          have hd' : decide (i < Ks'.length) = true := decide_eq_true hlt
          cases gk with
          | zero => exact absurd hk.out (by omega)
          | succ gk1 =>
            obtain ⟨q, hq⟩ : ∃ q, Ks'[i] = q := ⟨_, rfl⟩
            obtain ⟨ad, hA2, hc0⟩ := Kd.at_string (Kd.R_reads' hR.out).2.2 (i : Int) (by omega) (by omega)
            subst hA2
            rw [rd_at hlt, hq, show ((i : Int)).toNat = i from by simp] at hc0
            have hqd := hd3.out q (by rw [← hq]; exact List.getElem_mem hlt)
            have c0 := hT.out.cell
            have cb := (blk_cell hX.out 0).trans rfl
            obtain ⟨w5, hrun, hm5, hg5⟩ := (hT.out.map b rfl).2.delete encS Try.underlying31 hqd 0
            unfold ek at hrun
            have hst : drops T (Ks'.take (i + 1)) = mdel (drops T (Ks'.take i)) q := by
              rw [← hq, List.take_succ_eq_append_getElem hlt, drops_snoc hnd.out]
            obtain ⟨h5, f5⟩ := hT.out.wrote hm5 hg5 (fun x hx => hT.out.vals x ((del_sub _ q).subset hx))
            rw [← hst] at h5
            have h5' := Aside0.mk h5
            have f5' := Aside0.mk f5
            have hlt' := Aside0.mk hlt
            have p1 : 0 ≤ (i : Int) := by omega
            have q1 : (i : Int) < (Ks'.length : Int) := by omega
            clear hm5 hg5 h5 f5 hst hq hqd
            go_wp2_with fail
            go_roundg gk1
            case measure => have := hk.out; omega
            case rel => exact ⟨i + 1, by go_num, ⟨by have := hk.out; omega⟩, ⟨by have := hlt'.out; omega⟩, h5', ⟨hF.out.trans f5'.out⟩, ⟨R_fr hR.out f5'.out.fr (by simp [Kd.string, Kd.scalar])⟩, ⟨f5'.out.fr.same _ _ hX.out (by simp [Still])⟩⟩
        · have hd : decide ((i : Int) < (Ks'.length : Int)) = false := decide_eq_false (by omega)
          have hd' : decide (i < Ks'.length) = false := decide_eq_false hlt
          have hie := Aside0.mk (show i = Ks'.length by have := hi.out; omega)
          clear hlt
          go_wp2
          go_ret
          have hDl : D'.length = Ks'.length := by rw [← hD2'.out, List.length_map]
          refine ⟨D', A, cap, hD1'.out, hD3'.out, (by rw [hDl]; rfl), by rw [hDl, hD2'.out]; exact hR.out, ⟨some b, ?_⟩, hF.out⟩
          have := hT.out
          rw [hie.out, List.take_length, ← hD2'.out, drops_all hnd.out now hD1'.out] at this
          exact this
    · have hN2 := hN'.out
      rw [hN2] at hlt
      cases gk with
      | zero => exact absurd hk.out (by omega)
      | succ gk1 =>
        have hg2' := Aside0.mk hg2
        have hit2' := Aside0.mk hit2
        have hB2 : Aside0 (Below w.heap.size w w2) := ⟨hB.out.grown hg2 hB.out.size (fun k hk => by have := Option.some.inj hk; omega)⟩
        have hX2 : Aside0 (w2.heap[w.heap.size]? = some (.cells #[.pointer (some ⟨p, 0, none⟩)] 25 (0, 0))) := ⟨(hg2.block _ (blk_lt hX.out) (fun e => (hi.out.far hX.out).1 (Option.some.inj e))).trans hX.out⟩
        have hR2 : Aside0 (Kd.R Kd.string 9 w2 w.heap.size (fun k => w.heap.size ≤ k) (.slice A Ks.length cap) Ks) := ⟨Kd.R_grown2 hR.out rfl hg2 (fun k hk e => (R_it hR.out hi.out k e.symm).1 (Option.some.inj hk).symm)⟩
        have hKl : Ks.length ≤ D.length := by rw [hKs.out, List.length_map]; exact List.length_filter_le _ _
        have hKl' := Aside0.mk hKl
        have hlt' := Aside0.mk hlt
        have hsn := Aside0.mk (snoc_filter D k d now)
        clear hg2 hit2 hB hX hR hm hi hN2 hKl hlt
        by_cases hdn : d ≤ now
        · have e1 : decide (d ≤ now) = true := decide_eq_true hdn
          have hdn' := Aside0.mk hdn
          clear hdn
          go_wp2_with (first
            | ((with_reducible refine gate_builtin (b := .append) (xs := #[.tmp 25, .tmp 27]) rfl ?_); at_builtin
               refine Kd.R_append Kd.string (w0 := w) w.heap.size rfl (.tmp 25) (.tmp 27) 39 9 (.string ⟨#[]⟩) 16 rfl Try.underlying39 info9 rfl (by decide) (by omega) (.slice A Ks.length cap) Ks k [.string k] (fun k => w.heap.size ≤ k) (fun _ => False) rfl rfl rfl (fun _ hk => hk.elim) (fun j hj => Nat.le_trans hB2.out.size hj) hR2.out hB2.out hB2.out.size ?aL ?_
               (case aL => have := hKl'.out; have := hlt'.out; omega)
               intro v8 w8 ho8 hb8 hg8 hat8
               obtain ⟨A8, c8, e8, _, _⟩ := Kd.R_reads ho8
               have hi8 := Aside0.mk (hit2'.out.move (hg8.block b hit2'.out.lt.2 (fun e => (R_it hR2.out hit2'.out b e.symm).2 rfl)) (hg8.block _ hit2'.out.lt.1 (fun e => (R_it hR2.out hit2'.out _ e.symm).1 rfl)))
               have hX8 : Aside0 (w8.heap[w.heap.size]? = some (.cells #[.pointer (some ⟨p, 0, none⟩)] 25 (0, 0))) := ⟨(hg8.block _ (blk_lt hX2.out) (fun e => R_box hR2.out hX2.out (by decide) w.heap.size e.symm rfl)).trans hX2.out⟩
               subst e8
               have ho8' := Aside0.mk ho8
               have hb8' := Aside0.mk hb8
               clear ho8 hb8 hg8 hat8)
            | go_in)
          go_roundg gk1
          case measure => have := hk.out; omega
          case rel => exact ⟨D ++ [(k, d)], A8, c8, Ks ++ [k], by simp, ⟨by rw [hsn.out, if_pos hdn'.out, ← hKs.out]⟩, ho8', hi8, ⟨by rw [List.length_append, List.length_singleton]; have := hk.out; omega⟩, hb8', hX8⟩
        · have e1 : decide (d ≤ now) = false := decide_eq_false hdn
          have hdn' := Aside0.mk hdn
          clear hdn
          go_wp2_with fail
          go_roundg gk1
          case measure => have := hk.out; omega
          case rel => exact ⟨D ++ [(k, d)], A, cap, Ks, rfl, ⟨by rw [hsn.out, if_neg (by have := hdn'.out; omega), ← hKs.out]⟩, hR2, hit2', ⟨by rw [List.length_append, List.length_singleton]; have := hk.out; omega⟩, hB2, hX2⟩
theorem Take_calls (T : Tms) (ok : Nat → Prop) (p : Nat) (w : World) (now : Int) (h : IsT ok w p T) (hl : T.length ≤ 200) : Calls Try.prog 12 #[.pointer (some ⟨p, 0, none⟩), .int .i64 now] w fun e w' => Took T ok p now w w' e := by
  obtain ⟨mo, h⟩ := h
  cases mo with
  | none =>
    have e := h.none rfl
    subst e
    exact Take_none ok p w now h
  | some b => exact Take_some T b ok p w now h hl
end Go.Proofs.Ytdfghndcengkaaa.Tmr
