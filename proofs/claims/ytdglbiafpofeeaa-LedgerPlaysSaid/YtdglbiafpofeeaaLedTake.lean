/- Take, walked. -/
import Derived.Test.YtdglbiafpofeeaaLedRep
import Derived.Test.YtdglbiafpofeeaaPLedgerPlaysx2
import Derived.Deep.RegionHeld3
import Derived.Deep.AppendLies
import Derived.Deep.CutBlock
import Derived.Deep.DeepCutAuto
import Derived.Deep.DrawnRows
import Derived.Carry
import Derived.StillTailTactics
namespace Go.Proofs.Ytdglbiafpofeeaa.Led
open Go.RowKit Go.Proofs.YtdglbiafpofeeaaW.PrintWords Go.Proofs.YtdglbiafpofeeaaW.PrintLast Go.Proofs.YtdglbiafpofeeaaW.PrintMore Go.Proofs.Ytdglbiafpofeeaa.PLedgerPlays
open Amap
set_option linter.unusedVariables false
set_option linter.unusedSimpArgs false

theorem bcell {W w1 : World} (hb : Below W.heap.size W w1) : (∀ b o, b < W.heap.size → w1.cell? ⟨b, o, none⟩ = W.cell? ⟨b, o, none⟩) ∧ (∀ b o, b < W.heap.size → w1.frozen? ⟨b, o, none⟩ = W.frozen? ⟨b, o, none⟩) :=
  ⟨fun b o h => hb.cell (p := ⟨b, o, none⟩) h, fun b o h => hb.frozen (p := ⟨b, o, none⟩) h⟩
def msgV (m : Msg) : Value := .agg #[.int .i64 m.kind, .int .i64 m.inst, .int .i64 m.turn, .string m.name, .int .i64 m.att, .bool m.ok]
theorem number_f (n : Int) : outbox_number.f n = some (num n) := by
  unfold outbox_number.f num
  by_cases h0 : 0 ≤ n <;> by_cases h1 : n ≤ 2147483647 <;> simp [h0, h1]
theorem formed_f (m : Msg) : outbox_Formed.f m.kind m.inst m.turn m.name m.att m.ok = some (formed m) := by
  unfold outbox_Formed.f formed
  simp only [number_f, Option.bind_some]
  by_cases h0 : 1 ≤ m.kind <;> by_cases h1 : m.kind ≤ 4 <;> cases num m.inst <;> cases num m.turn <;> cases num m.att <;> by_cases h2 : m.name.size ≤ 200 <;> cases m.ok <;>
    simp [h0, h1, h2, show (m.name.size : Int) ≤ 200 ↔ m.name.size ≤ 200 by omega]
set_option maxHeartbeats 4000000 in
set_option maxRecDepth 100000 in
theorem Take_no (m : Msg) (acc : Bool) (ht : takes m = false) (p : Nat) (w : World) :
    Calls Try.prog 16 #[.pointer (some ⟨p, 0, none⟩), msgV m, .bool acc] w fun e w' => e = .returned (.tuple #[msgV msg0, .bool false]) ∧ Below w.heap.size w w' := by
  obtain ⟨kind, inst, turn, name, att, ok⟩ := m
  have hfm := formed_f ⟨kind, inst, turn, name, att, ok⟩
  by_cases hf : formed ⟨kind, inst, turn, name, att, ok⟩ = true
  · have hk : 2 < kind := by
      simp only [takes, hf, Bool.true_and, decide_eq_false_iff_not] at ht
      omega
    rw [hf] at hfm
    have hfm' := Aside0.mk hfm
    have hd : decide (2 < kind) = true := decide_eq_true hk
    clear hfm hf ht
    unfold msgV msg0
    go_enter Try.func16, Try.ntmps16
    go_wp2_with (first | (go_at_call 36; (with_reducible refine (outbox_Formed.calls kind inst turn name att ok true _ hfm'.out).mono ?_); rintro e w1 ⟨rfl, hb1⟩; obtain ⟨hc1, hf1⟩ := bcell hb1) | go_in)
    refine bodyPost_ret (v := .tuple #[msgV msg0, .bool false]) (by simp [results, Try.results16, go_sem, msgV, msg0, hc1]) rfl ⟨rfl, ?_⟩
    have hb2 : Below w.heap.size w w1 := below_step (below_alloc (below_alloc (Below.refl _ _) _) _) hb1
    repeat (refine Below.setCell ?_ (by simp) _)
    exact hb2
  · have hf' : formed ⟨kind, inst, turn, name, att, ok⟩ = false := by simpa using hf
    rw [hf'] at hfm
    have hfm' := Aside0.mk hfm
    clear hfm hf ht hf'
    unfold msgV msg0
    go_enter Try.func16, Try.ntmps16
    go_wp2_with (first | (go_at_call 36; (with_reducible refine (outbox_Formed.calls kind inst turn name att ok false _ hfm'.out).mono ?_); rintro e w1 ⟨rfl, hb1⟩; obtain ⟨hc1, hf1⟩ := bcell hb1) | go_in)
    refine bodyPost_ret (v := .tuple #[msgV msg0, .bool false]) (by simp [results, Try.results16, go_sem, msgV, msg0, hc1]) rfl ⟨rfl, ?_⟩
    have hb2 : Below w.heap.size w w1 := below_step (below_alloc (below_alloc (Below.refl _ _) _) _) hb1
    repeat (refine Below.setCell ?_ (by simp) _)
    exact hb2
theorem Fr.set_new {T : List Nat} {mp : Bool} {base : Nat} {w w1 : World} (h : Fr T mp base w w1) {g : Nat} (hg : w.heap.size ≤ g) (hb : base ≤ g) (j : Nat) (u : Value) : Fr T mp base w (w1.setCell ⟨g, j, none⟩ u) :=
  ⟨h.below.setCell hb _, fun i o ho hs => by
    have := blk_lt ho
    exact (Below.heap_setCell w1 ⟨g, j, none⟩ u i (by simp only; omega)).trans (h.same i o ho hs)⟩
theorem Fr.mono {T T' : List Nat} {mp mp' : Bool} {base : Nat} {w w1 : World} (h : Fr T mp base w w1) (hT : ∀ t, t ∈ T → t ∈ T') (hm : mp = true → mp' = true) : Fr T' mp' base w w1 :=
  ⟨h.below, fun i o ho hs => h.same i o ho (by
    cases o <;> simp only [Still] at hs ⊢
    · exact fun e => hs (hT _ e)
    · cases mp <;> simp_all)⟩
def msgA (m : Msg) : Array Value := #[.int .i64 m.kind, .int .i64 m.inst, .int .i64 m.turn, .string m.name, .int .i64 m.att, .bool m.ok]
theorem mput_same {κ α : Type} [DecidableEq κ] : ∀ {m : List (κ × α)} {x : κ} {v : α}, mlook m x = some v → mput m x v = m
  | [], x, v, h => by simp [mlook] at h
  | p :: m, x, v, h => by
    unfold mput
    unfold mlook at h
    split
    · rename_i e
      rw [if_pos e] at h
      cases h
      subst e
      rfl
    · rename_i e
      rw [if_neg e] at h
      rw [mput_same h]
/-- The result's cells are written. -/
theorem six {base : Nat} {W : World} {g : Nat} {m0 : Msg} (hg : W.heap[g]? = some (.cells (msgA m0) 28 (0, 0))) (hb : base ≤ g) (m : Msg) (W' : World)
    (hW : W' = (((((W.setCell ⟨g, 0, none⟩ (.int .i64 m.kind)).setCell ⟨g, 1, none⟩ (.int .i64 m.inst)).setCell ⟨g, 2, none⟩ (.int .i64 m.turn)).setCell ⟨g, 3, none⟩ (.string m.name)).setCell ⟨g, 4, none⟩ (.int .i64 m.att)).setCell ⟨g, 5, none⟩ (.bool m.ok)) :
    W'.heap[g]? = some (.cells (msgA m) 28 (0, 0)) ∧ Fr [28] false base W W' := by
  subst hW
  have b0 := blk_put hg 0 (.int .i64 m.kind) rfl
  have b1 := blk_put b0 1 (.int .i64 m.inst) rfl
  have b2 := blk_put b1 2 (.int .i64 m.turn) rfl
  have b3 := blk_put b2 3 (.string m.name) rfl
  have b4 := blk_put b3 4 (.int .i64 m.att) rfl
  have b5 := blk_put b4 5 (.bool m.ok) rfl
  exact ⟨b5, ((((((Fr.refl [28] false base W).set hg (by simp) hb _ _).set b0 (by simp) hb _ _).set b1 (by simp) hb _ _).set b2 (by simp) hb _ _).set b3 (by simp) hb _ _).set b4 (by simp) hb _ _⟩
theorem at_world {F : World → Prop} {w : World} (h : ∀ W, W = w → F W) : F w := h w rfl
theorem own_ne {w : World} {base e size n : Nat} {v : Value} {xs : List Value} (h : w.ownsRow base e size v n xs) {g t : Nat} {cs : Array Value} (hb : w.heap[g]? = some (.cells cs t (0, 0))) (ht : e ≠ t) : some g ≠ v.ownBlock := by
  intro he
  obtain ⟨cells, hc⟩ := own_typed h g he.symm
  rw [hc] at hb
  injection hb with hb
  injection hb with _ hb
  exact ht hb
theorem wp_world {P : Program} {c : Code} {K : Exit → Act → World → Prop} {a : Act} {w : World} (h : ∀ W, W = w → Code.wp P c K a W) : Code.wp P c K a w := h w rfl
theorem msg_cells {W : World} {g : Nat} {m : Msg} (h : W.heap[g]? = some (.cells (msgA m) 28 (0, 0))) :
    W.cell? ⟨g, 0, none⟩ = some (.int .i64 m.kind) ∧ W.cell? ⟨g, 1, none⟩ = some (.int .i64 m.inst) ∧ W.cell? ⟨g, 2, none⟩ = some (.int .i64 m.turn) ∧ W.cell? ⟨g, 3, none⟩ = some (.string m.name) ∧ W.cell? ⟨g, 4, none⟩ = some (.int .i64 m.att) ∧ W.cell? ⟨g, 5, none⟩ = some (.bool m.ok) :=
  ⟨(blk_cell h 0).trans rfl, (blk_cell h 1).trans rfl, (blk_cell h 2).trans rfl, (blk_cell h 3).trans rfl, (blk_cell h 4).trans rfl, (blk_cell h 5).trans rfl⟩
set_option maxHeartbeats 4000000 in
set_option maxRecDepth 100000 in
theorem Take_yes (m : Msg) (acc : Bool) (ht : takes m = true) (S : St) (r : St × Msg × Bool) (hr : take S m acc = r) (base p : Nat) (w : World) (hbase : base ≤ w.heap.size) (hS : IsLed base w p S) (hlen : S.L.length ≤ 200) (hE : S.E.length ≤ 1000000) :
    Calls Try.prog 16 #[.pointer (some ⟨p, 0, none⟩), msgV m, .bool acc] w fun e w' => e = .returned (.tuple #[msgV r.2.1, .bool r.2.2]) ∧ IsLed base w' p r.1 ∧ Fr [44, 95, 36] true base w w' := by
  obtain ⟨M, ent, mv, ev, h⟩ := hS
  have hfm := formed_f m
  have hf : formed m = true := by simp [takes] at ht; exact ht.1
  have hk := takes_kind ht
  rw [hf] at hfm
  have hfm' := Aside0.mk hfm
  have hpl : p < w.heap.size := blk_lt h.blk
  obtain ⟨kind, inst, turn, name, att, ok⟩ := m
  have hdom : domK (inst, turn) := by
    simp [formed, num] at hf
    exact ⟨by simp only; omega, by simp only; omega⟩
  have hatt : 0 ≤ att ∧ att ≤ 2147483647 := by
    simp [formed, num] at hf
    omega
  have hdk : decide (2 < kind) = false := decide_eq_false (by simp only at hk; omega)
  have hr' := Aside0.mk hr
  have h' := Aside0.mk h
  have hk' := Aside0.mk hk
  have ht' := Aside0.mk ht
  clear hfm hf ht hr h hk
  unfold msgV
  go_enter Try.func16, Try.ntmps16
  go_upto_region 4 with (first | (go_at_call 36; (with_reducible refine (outbox_Formed.calls kind inst turn name att ok true _ hfm'.out).mono ?_); rintro e w1 ⟨rfl, hb1⟩; obtain ⟨hc1, hf1⟩ := bcell hb1) | go_in)
  refine wp_world (fun W hW => ?_)
  have hB4 : W.heap[w.heap.size]? = some (.cells (msgA ⟨kind, inst, turn, name, att, ok⟩) 28 (0, 0)) := by
    rw [hW]; exact blk_alloc (blk_below (blk_alloc (blk_new w _) _) hb1) _
  have hB6 : W.heap[w.heap.size + 1]? = some (.cells (msgA msg0) 28 (0, 0)) := by
    rw [hW]
    have h1 := blk_below (blk_new (w.alloc (.cells (msgA ⟨kind, inst, turn, name, att, ok⟩) 28)) (.cells (msgA msg0) 28)) hb1
    simp at h1
    exact blk_alloc h1 _
  have hB8 : W.heap[w1.heap.size]? = some (.cells #[.int .i64 inst, .int .i64 turn] 90 (0, 0)) := by rw [hW]; exact blk_new _ _
  have hbel : Below w.heap.size w W := by rw [hW]; exact below_alloc (below_step (below_alloc (below_alloc (Below.refl _ _) _) _) hb1) _
  have hfr : Fr [] false base w W := Fr.of_below hbase hbel _ _
  have hL : LedAt base W p S M ent mv ev := h'.out.fr hfr (by simp) (by simp) (by simp)
  clear hW h' hb1 hc1 hf1
  obtain ⟨m0, m1, m2, m3, m4, m5⟩ := msg_cells hB4
  simp only [] at m0 m1 m2 m3 m4 m5
  have k0 : W.cell? ⟨w1.heap.size, 0, none⟩ = some (.int .i64 inst) := (blk_cell hB8 0).trans rfl
  have k1 : W.cell? ⟨w1.heap.size, 1, none⟩ = some (.int .i64 turn) := (blk_cell hB8 1).trans rfl
  have p0 : W.cell? ⟨p, 0, none⟩ = some mv := (blk_cell hL.blk 0).trans rfl
  have hlook : ∀ n, (Instr.lookup 42 mv (.agg #[.int .i64 inst, .int .i64 turn]) false).run Try.prog (W.drewN n) = .ok (((mlook M (inst, turn)).map eptr).getD (.pointer none)) (W.drewN n) := fun n => MapV.lookup (w := W.drewN n) (k := (inst, turn)) hL.map hdom
  generalize hres : ((mlook M (inst, turn)).map eptr).getD (.pointer none) = xv at hlook
  have hres' := Aside0.mk hres
  have hL' := Aside0.mk hL
  clear hres hL
  go_quiet (fail)
  obtain ⟨b, hb, heqg, heq⟩ : ∃ b : Bool, Aside0 (b = (mlook M (inst, turn)).isNone) ∧ (∀ W : World, (eqGuard BinOp.eql 91 (Operand.tmp 36) (Operand.const (Value.pointer none)) xv (Value.pointer none)).run Try.prog W = .ok () W) ∧ ∀ W : World, (binOp BinOp.eql 91 xv (Value.pointer none)).run Try.prog W = .ok (.bool b) W := by
    have hu := Try.underlying91
    rw [← hres'.out]
    cases mlook M (inst, turn) with
    | none => exact ⟨true, ⟨rfl⟩, fun W => by simp [go_sem], fun W => by simp [go_sem]⟩
    | some g => exact ⟨false, ⟨rfl⟩, fun W => by simp [go_sem, eptr], fun W => by simp [go_sem, eptr]⟩
  go_upto_if 37 with (fail)
  refine wp_world (fun W2 hW2 => ?_)
  have hB4' : W2.heap[w.heap.size]? = some (.cells (msgA ⟨kind, inst, turn, name, att, ok⟩) 28 (0, 0)) := by rw [hW2]; exact hB4
  have hB6' : W2.heap[w.heap.size + 1]? = some (.cells (msgA msg0) 28 (0, 0)) := by rw [hW2]; exact hB6
  have hB8' : W2.heap[w1.heap.size]? = some (.cells #[.int .i64 inst, .int .i64 turn] 90 (0, 0)) := by rw [hW2]; exact hB8
  have hfr' : Fr [] false base w W2 := by rw [hW2]; exact hfr.drewN nq
  have hL2 : Aside0 (LedAt base W2 p S M ent mv ev) := by rw [hW2]; exact ⟨hL'.out.fr ((Fr.refl [] false base W).drewN nq) (by simp) (by simp) (by simp)⟩
  clear hW2 hB4 hB6 hB8 hfr hL' m0 m1 m2 m3 m4 m5 k0 k1 p0 hlook hbel
  go_cut [9] (fun v wx => ∃ g x M' ent' mv', v = .pointer (some ⟨g, 0, none⟩) ∧ Aside0 (found S (inst, turn) = some x) ∧ Aside0 (LedAt base wx p ⟨mput S.L (inst, turn) x, S.E⟩ M' ent' mv' ev) ∧ Aside0 (mlook M' (inst, turn) = some g) ∧ Aside0 (ent' g = x) ∧ Aside0 (Fr [44] true base w wx) ∧
    wx.heap[w.heap.size]? = some (.cells (msgA ⟨kind, inst, turn, name, att, ok⟩) 28 (0, 0)) ∧ wx.heap[w.heap.size + 1]? = some (.cells (msgA msg0) 28 (0, 0)))
  case first =>
    clear heq heqg
    cases hm : mlook M (inst, turn) with
    | some g =>
      have hx : xv = .pointer (some ⟨g, 0, none⟩) := by rw [← hres'.out, hm]; rfl
      obtain rfl : b = false := by rw [hb.out, hm]; rfl
      subst hx
      have hm' := Aside0.mk hm
      clear hm hres' hb
      go_wp2
      go_meet
      case rel =>
        have hS : mlook S.L (inst, turn) = some (ent g) := by rw [hL2.out.look, hm'.out]; rfl
        have hput : mput S.L (inst, turn) (ent g) = S.L := mput_same hS
        refine ⟨g, ent g, M, ent, mv, rfl, ⟨by unfold found; rw [hS]⟩, ⟨by rw [hput]; exact hL2.out⟩, hm', ⟨rfl⟩, ⟨hfr'.mono (by simp) (by simp)⟩, hB4', hB6'⟩
    | none =>
      have hx : xv = .pointer none := by rw [← hres'.out, hm]; rfl
      obtain rfl : b = true := by rw [hb.out, hm]; rfl
      subst hx
      have hm' := Aside0.mk hm
      clear hm hres' hb
      have hML : M.length = S.L.length := by rw [hL2.out.L]; simp
      have p0 : W2.cell? ⟨p, 0, none⟩ = some mv := (blk_cell hL2.out.blk 0).trans rfl
      have q0 := blk_frozen hL2.out.blk 0
      have hlen2 : ∀ ty, (Builtin.len_ #[42] ty #[mv]).run Try.prog W2 = .ok (.int .i64 M.length) W2 := fun ty => MapV.len hL2.out.map ty
      by_cases hfull : 200 ≤ M.length
      · have hd : decide (200 ≤ (M.length : Int)) = true := decide_eq_true (by omega)
        obtain rfl : r = (S, msg0, false) := by
          have hfd : found S (inst, turn) = none := by
            unfold found
            rw [hL2.out.look, hm'.out]
            simp only [Option.map_none]
            rw [if_neg (by omega)]
          rw [← hr'.out]
          unfold take
          rw [if_pos ht'.out]
          simp only [hfd]
        obtain ⟨z0, z1, z2, z3, z4, z5⟩ := msg_cells hB6'
        have y0 := blk_frozen hB6' 0
        have y1 := blk_frozen hB6' 1
        have y2 := blk_frozen hB6' 2
        have y3 := blk_frozen hB6' 3
        have y4 := blk_frozen hB6' 4
        have y5 := blk_frozen hB6' 5
        have hML' := Aside0.mk hML
        clear hML hlen
        go_wp2
        refine bodyPost_ret (v := .tuple #[msgV msg0, .bool false]) (by simp [results, Try.results16, go_sem, msgV, msg0, z0, z1, z2, z3, z4, z5]) rfl ?_
        obtain ⟨_, f6⟩ := six hB6' (by omega : base ≤ w.heap.size + 1) msg0 _ rfl
        refine ⟨rfl, ⟨M, ent, mv, ev, hL2.out.fr f6 (by simp) (by simp) (by simp)⟩, ?_⟩
        repeat (refine Fr.set_new ?_ (by omega) (by omega) _ _)
        exact hfr'.mono (by simp) (by simp)
      · have hd : decide (200 ≤ (M.length : Int)) = false := decide_eq_false (by omega)
        have hML' := Aside0.mk hML
        have hfull' := Aside0.mk hfull
        clear hML hlen hfull
        rcases hL2.out.map with ⟨rfl, rfl⟩ | ⟨b, rfl, hbb, hmb⟩
        · have hnil : ∀ W : World, (binOp BinOp.eql 42 (.map none) (.map none)).run Try.prog W = .ok (.bool true) W := fun W => run_eql_map_nil (P := Try.prog) W 42 90 91 none Try.underlying42
          have hmm := @run_makeMap Try.prog
          have hpl2 : p < W2.heap.size := blk_lt hL2.out.blk
          have bp1 : (W2.alloc (.map #[] 0)).heap[p]? = some (.cells #[.map none, ev] 44 (0, 0)) := blk_alloc hL2.out.blk _
          have q1 := blk_frozen bp1 0
          have p1 : (W2.alloc (.map #[] 0)).cell? ⟨p, 0, none⟩ = some (.map none) := (blk_cell bp1 0).trans rfl
          go_upto_region 11 with (fail)
          refine wp_world (fun W3 hW3 => ?_)
          have b3 : W3.heap[p]? = some (.cells #[.map (some W2.heap.size), ev] 44 (0, 0)) := by rw [hW3]; exact blk_alloc (blk_alloc (blk_put hL2.out.blk 0 _ rfl) _) _
          have hm3 : MapIs ekey eptr domK W3 W2.heap.size [] := by
            have h1 := MapIs.made (ek := ekey) (ev := eptr) (dom := domK) (W2.setCell ⟨p, 0, none⟩ (.map (some W2.heap.size)))
            have h2 : (W2.setCell ⟨p, 0, none⟩ (.map (some W2.heap.size))).heap.size = W2.heap.size := by simp
            rw [h2] at h1
            exact h1.move (by rw [hW3]; exact Below.heap_alloc _ _ _ (by simp))
          have hg3 : W3.heap[W2.heap.size + 1]? = some (.cells (entCells ent0) 95 (0, 0)) := by
            rw [hW3]
            have h1 := blk_new ((W2.setCell ⟨p, 0, none⟩ (.map (some W2.heap.size))).alloc (.map #[] 0)) (.cells (entCells ent0) 95)
            have h2 : ((W2.setCell ⟨p, 0, none⟩ (.map (some W2.heap.size))).alloc (.map #[] 0)).heap.size = W2.heap.size + 1 := by simp
            rw [h2] at h1
            exact h1
          have f3 : Fr [44] true base W2 W3 := by
            have hb2 : base ≤ W2.heap.size := by have := hfr'.below.size; omega
            rw [hW3]
            exact ((((Fr.refl [44] true base W2).set hL2.out.blk (by simp) hL2.out.pb _ _).alloc hb2 _).alloc hb2 _)
          clear hW3 hnil hmm q1 p1 bp1
          have B4 := f3.same _ _ hB4' (by simp [Still])
          have B6 := f3.same _ _ hB6' (by simp [Still])
          have B8 := f3.same _ _ hB8' (by simp [Still])
          have p0 : W3.cell? ⟨p, 0, none⟩ = some (.map (some W2.heap.size)) := (blk_cell b3 0).trans rfl
          have k0 : W3.cell? ⟨w1.heap.size, 0, none⟩ = some (.int .i64 inst) := (blk_cell B8 0).trans rfl
          have k1 : W3.cell? ⟨w1.heap.size, 1, none⟩ = some (.int .i64 turn) := (blk_cell B8 1).trans rfl
          have hm3' : MapIs ekey eptr domK W3.drew W2.heap.size ([] : List (Key × Nat)) := hm3
          go_still_tail 6, (by kernel_rfl)
          change wpList _ _ _ _ _ W3.drew
          go_wp2_with (at_mapUpdate; refine wpList_update_run rfl _ _ _ 42 rfl (.map (some W2.heap.size)) (ekey (inst, turn)) (eptr (W2.heap.size + 1)) rfl rfl rfl (hm3'.update encK Try.underlying42 hdom (W2.heap.size + 1)) ?_; rintro w5 ⟨hm5, hg5⟩)
          go_meet
          case rel =>
            have hne : ∀ (i : Nat) cs t z, W3.heap[i]? = some (.cells cs t z) → some i ≠ some W2.heap.size := fun i cs t z hi e => by
              cases e
              obtain ⟨es, clock, hh, _⟩ := hm3
              rw [hh] at hi
              cases hi
            have f5 : Fr [44] true base W2 w5 := f3.drew.grown hg5 (by have := f3.below.size; have := hfr'.below.size; show base ≤ W3.heap.size; omega) (fun i e => by
              cases e
              refine ⟨(by have := hfr'.below.size; omega), fun o ho => ?_⟩
              obtain ⟨es, clock, hh, _⟩ := hm3
              have ho' : W3.heap[W2.heap.size]? = some o := ho
              rw [hh] at ho'
              cases ho'
              simp [Still])
            have hfd : found S (inst, turn) = some ent0 := by
              unfold found
              rw [hL2.out.look, hm'.out]
              simp only [Option.map_none]
              rw [if_pos (by have := hML'.out; have := hfull'.out; omega)]
            refine ⟨W2.heap.size + 1, ent0, mput ([] : List (Key × Nat)) (inst, turn) (W2.heap.size + 1), (fun i => if i = W2.heap.size + 1 then ent0 else ent i), .map (some W2.heap.size), rfl, ⟨hfd⟩, ⟨?_⟩, ⟨mlook_put_same _ _ _⟩, ⟨if_pos rfl⟩, ⟨(hfr'.mono (by simp) (by simp)).trans f5⟩, blk_grown (w := W3.drew) B4 hg5 (hne _ _ _ _ B4), blk_grown (w := W3.drew) B6 hg5 (hne _ _ _ _ B6)⟩
            exact hL2.out.new hm'.out (by omega) (by have := hfr'.below.size; omega) f5 (blk_grown (w := W3.drew) b3 hg5 (hne _ _ _ _ b3)) (.inr ⟨_, rfl, (by have := hfr'.below.size; omega), hm5⟩) (blk_grown (w := W3.drew) hg3 hg5 (hne _ _ _ _ hg3))
        · have hnil : ∀ W : World, (binOp BinOp.eql 42 (.map (some b)) (.map none)).run Try.prog W = .ok (.bool false) W := fun W => run_eql_map_nil (P := Try.prog) W 42 90 91 (some b) Try.underlying42
          go_upto_region 11 with (fail)
          refine wp_world (fun W3 hW3 => ?_)
          have b3 : W3.heap[p]? = some (.cells #[.map (some b), ev] 44 (0, 0)) := by rw [hW3]; exact blk_alloc hL2.out.blk _
          have hm3 : MapIs ekey eptr domK W3 b M := hmb.move (by rw [hW3]; exact Below.heap_alloc _ _ _ hmb.lt)
          have hg3 : W3.heap[W2.heap.size]? = some (.cells (entCells ent0) 95 (0, 0)) := by rw [hW3]; exact blk_new _ _
          have f3 : Fr [44] true base W2 W3 := by
            have hb2 : base ≤ W2.heap.size := by have := hfr'.below.size; omega
            rw [hW3]
            exact (Fr.refl [44] true base W2).alloc hb2 _
          clear hW3 hnil
          have B4 := f3.same _ _ hB4' (by simp [Still])
          have B6 := f3.same _ _ hB6' (by simp [Still])
          have B8 := f3.same _ _ hB8' (by simp [Still])
          have p0 : W3.cell? ⟨p, 0, none⟩ = some (.map (some b)) := (blk_cell b3 0).trans rfl
          have k0 : W3.cell? ⟨w1.heap.size, 0, none⟩ = some (.int .i64 inst) := (blk_cell B8 0).trans rfl
          have k1 : W3.cell? ⟨w1.heap.size, 1, none⟩ = some (.int .i64 turn) := (blk_cell B8 1).trans rfl
          have hm3' : MapIs ekey eptr domK W3.drew b M := hm3
          go_still_tail 6, (by kernel_rfl)
          change wpList _ _ _ _ _ W3.drew
          go_wp2_with (at_mapUpdate; refine wpList_update_run rfl _ _ _ 42 rfl (.map (some b)) (ekey (inst, turn)) (eptr (W2.heap.size)) rfl rfl rfl (hm3'.update encK Try.underlying42 hdom (W2.heap.size)) ?_; rintro w5 ⟨hm5, hg5⟩)
          go_meet
          case rel =>
            have hne : ∀ (i : Nat) cs t z, W3.heap[i]? = some (.cells cs t z) → some i ≠ some b := fun i cs t z hi e => by
              cases e
              obtain ⟨es, clock, hh, _⟩ := hm3
              rw [hh] at hi
              cases hi
            have f5 : Fr [44] true base W2 w5 := f3.drew.grown hg5 (by have := f3.below.size; have := hfr'.below.size; show base ≤ W3.heap.size; omega) (fun i e => by
              cases e
              refine ⟨hbb, fun o ho => ?_⟩
              obtain ⟨es, clock, hh, _⟩ := hm3
              have ho' : W3.heap[b]? = some o := ho
              rw [hh] at ho'
              cases ho'
              simp [Still])
            have hfd : found S (inst, turn) = some ent0 := by
              unfold found
              rw [hL2.out.look, hm'.out]
              simp only [Option.map_none]
              rw [if_pos (by have := hML'.out; have := hfull'.out; omega)]
            refine ⟨W2.heap.size, ent0, mput M (inst, turn) (W2.heap.size), (fun i => if i = W2.heap.size then ent0 else ent i), .map (some b), rfl, ⟨hfd⟩, ⟨?_⟩, ⟨mlook_put_same _ _ _⟩, ⟨if_pos rfl⟩, ⟨(hfr'.mono (by simp) (by simp)).trans f5⟩, blk_grown (w := W3.drew) B4 hg5 (hne _ _ _ _ B4), blk_grown (w := W3.drew) B6 hg5 (hne _ _ _ _ B6)⟩
            exact hL2.out.new hm'.out (by omega) (by have := hfr'.below.size; omega) f5 (blk_grown (w := W3.drew) b3 hg5 (hne _ _ _ _ b3)) (.inr ⟨_, rfl, hbb, hm5⟩) (blk_grown (w := W3.drew) hg3 hg5 (hne _ _ _ _ hg3))
  case rest =>
    obtain ⟨g, x, M', ent', mv', rfl, hfd, hLc, hmk, hex, hfc, B4, B6⟩ := hcut
    clear hL2 hfr' hres' hb heqg heq hlen hB4' hB6' hB8' hfm' hdk
    have hg0 : wc.heap[g]? = some (.cells (entCells x) 95 (0, 0)) := by
      have := (hLc.out.ents _ (hLc.out.mem hmk.out)).2
      rw [show ent' (((inst, turn), g) : Key × Nat).2 = x from hex.out] at this
      exact this
    have hgl : g < wc.heap.size := blk_lt hg0
    have hgb : base ≤ g := (hLc.out.ents _ (hLc.out.mem hmk.out)).1
    have hbw : base ≤ wc.heap.size := by have := hfc.out.below.size; omega
    have hww : w.heap.size + 1 < wc.heap.size := blk_lt B6
    have hww0 : w.heap.size < wc.heap.size := blk_lt B4
    obtain ⟨m0, m1, m2, m3, m4, m5⟩ := msg_cells B4
    simp only [] at m0 m1 m2 m3 m4 m5
    rcases hk'.out with rfl | rfl
    · obtain ⟨⟨x', okr, eff⟩, hact⟩ : ∃ a, doIt x att acc = a := ⟨_, rfl⟩
      have hact' := Aside0.mk hact
      clear hact hk'
      go_upto_if 86 with (first | (go_at_call 40; (with_reducible refine (doIt_calls x att acc _ hact'.out g _ (by repeat (first | exact hg0 | refine blk_alloc ?_ _ | refine blk_far ?_ (by simp; omega) _)) hatt.1 hatt.2).mono ?_); rintro e w6 ⟨rfl, hg6, hk6, hbl6⟩; have hb10 := hk6.blk (blk_new wc _) (by omega) (by simp); have c5 := blk_cell hb10 5; simp at c5; have f5 := blk_frozen hb10 5) | fail)
      refine wp_world (fun W7 hW7 => ?_)
      have b10 : W7.heap[wc.heap.size]? = some (.cells (msgA ⟨3, inst, turn, name, att, okr⟩) 28 (0, 0)) := by rw [hW7]; exact blk_put hb10 5 _ rfl
      have hL7 : LedAt base W7 p ⟨mput S.L (inst, turn) x', S.E⟩ M' (fun i => if i = g then x' else ent' i) mv' ev := by
        have h1 := hLc.out.fr ((Fr.refl [] false base wc).alloc hbw (.cells (msgA ⟨3, inst, turn, name, att, ok⟩) 28)) (by simp) (by simp) (by simp)
        have h2 := h1.put hmk.out hg6 hk6
        rw [mput_mput] at h2
        rw [hW7]
        exact h2.fr ((Fr.refl [28] false base w6).set hb10 (by simp) hbw _ _) (by simp) (by simp) (by simp)
      have hf7 : Fr [44, 95] true base w W7 := by
        have h1 : Fr [44, 95] true base w (wc.alloc (.cells (msgA ⟨3, inst, turn, name, att, ok⟩) 28)) := (hfc.out.mono (by simp) (by simp)).alloc hbase _
        rw [hW7]
        exact Fr.set_new (h1.keep (blk_alloc hg0 _) (by simp) (hbl6 _ hgb) hk6) (by omega) hbw _ _
      have B47 : W7.heap[w.heap.size]? = some (.cells (msgA ⟨1, inst, turn, name, att, ok⟩) 28 (0, 0)) := by
        rw [hW7]; exact blk_far (hk6.blk (blk_alloc B4 _) (blk_ne B4 hg0 (by decide)) (by simp)) (by simp only; omega) _
      have B67 : W7.heap[w.heap.size + 1]? = some (.cells (msgA msg0) 28 (0, 0)) := by
        rw [hW7]; exact blk_far (hk6.blk (blk_alloc B6 _) (blk_ne B6 hg0 (by decide)) (by simp)) (by simp only; omega) _
      clear hW7 hb10 c5 f5 hk6 hg6 hLc hfc B4 B6 hg0 hbl6 m0 m1 m2 m3 m4 m5
      obtain ⟨m0, m1, m2, m3, m4, m5⟩ := msg_cells B47
      obtain ⟨n0, n1, n2, n3, n4, n5⟩ := msg_cells b10
      obtain ⟨z0, z1, z2, z3, z4, z5⟩ := msg_cells B67
      simp only [] at m0 m1 m2 m3 m4 m5 n0 n1 n2 n3 n4 n5
      have y0 := blk_frozen B67 0
      have y1 := blk_frozen B67 1
      have y2 := blk_frozen B67 2
      have y3 := blk_frozen B67 3
      have y4 := blk_frozen B67 4
      have y5 := blk_frozen B67 5
      have hrr : r = (⟨mput S.L (inst, turn) x', if eff = true then S.E ++ [effOf ⟨1, inst, turn, name, att, ok⟩] else S.E⟩, reply ⟨1, inst, turn, name, att, ok⟩ okr, true) := by
        have ha : act ⟨1, inst, turn, name, att, ok⟩ x acc = (x', okr, eff) := by unfold act; rw [if_pos rfl]; exact hact'.out
        rw [← hr'.out]
        unfold take
        rw [if_pos ht'.out]
        simp only [hfd.out, ha]
      subst hrr
      have hL8 := Aside0.mk hL7
      clear hL7 hr'
      cases eff with
      | false =>
        go_wp2
        refine bodyPost_ret (v := .tuple #[msgV (reply ⟨1, inst, turn, name, att, ok⟩ okr), .bool true]) (by simp [results, Try.results16, go_sem, msgV, reply, z0, z1, z2, z3, z4, z5]) rfl ?_
        obtain ⟨_, f6⟩ := six B67 (by omega : base ≤ w.heap.size + 1) (reply ⟨1, inst, turn, name, att, ok⟩ okr) _ rfl
        refine ⟨rfl, ⟨M', _, mv', ev, hL8.out.fr f6 (by simp) (by simp) (by simp)⟩, ?_⟩
        repeat (refine Fr.set_new ?_ (by omega) (by omega) _ _)
        exact hf7.mono (by simp) (by simp)
      | true =>
        obtain ⟨_, inner, hown, hreps⟩ := hL8.out.E
        have hlenE : (S.E.map effS).length ≤ 1000000 := by simpa using hE
        have hsz36 : k36.sz = 4 := rfl
        have hlm : (S.E.map effS).length = S.E.length := List.length_map ..
        rw [hlm] at hown hlenE
        have hown' := Aside0.mk hown
        clear hlm
        have hreps' := Aside0.mk hreps
        clear hown hreps hE
        have p1 : W7.cell? ⟨p, 1, none⟩ = some ev := (blk_cell hL8.out.blk 1).trans rfl
        have fp1 := blk_frozen hL8.out.blk 1
        have hpl7 : p < W7.heap.size := blk_lt hL8.out.blk
        have hwl7 : w.heap.size < W7.heap.size := blk_lt B47
        have hnp : some p ≠ ev.ownBlock := own_ne hown'.out hL8.out.blk (by decide)
        have hnw : some w.heap.size ≠ ev.ownBlock := own_ne hown'.out B47 (by decide)
        have hnz : some (w.heap.size + 1) ≠ ev.ownBlock := own_ne hown'.out B67 (by decide)
        have hnn : some wc.heap.size ≠ ev.ownBlock := own_ne hown'.out b10 (by decide)
        have hbw7 : base ≤ W7.heap.size := by omega
        obtain ⟨i0, hi0, hz0, hz1, hz2⟩ := info_parts info36
        have fp2 : (W7.alloc (.cells #[.bool false, .int .i64 inst, .int .i64 turn, .string name] 36)).frozen? ⟨p, 1, none⟩ = false := blk_frozen (blk_alloc hL8.out.blk _) 1
        go_upto_region 20 with (fail)
        refine start_ (n := 20) (S := fun w' => w'.cell? ⟨p, 1, none⟩ = some ev ∧ w'.frozen? ⟨p, 1, none⟩ = false ∧ w'.cell? ⟨w.heap.size, 0, none⟩ = some (.int .i64 1) ∧ w'.cell? ⟨w.heap.size, 1, none⟩ = some (.int .i64 inst) ∧ w'.cell? ⟨w.heap.size, 2, none⟩ = some (.int .i64 turn) ∧ w'.cell? ⟨w.heap.size, 3, none⟩ = some (.string name)) (ds := [19]) #[false, false, false, false, false, false, false, false, false, false, false, false, false, false, false, false, false, false, false, false] (by kernel_rfl) rfl rfl ⟨p1, fp1, m0, m1, m2, m3⟩ (fun hHeld => ?_)
        refine pure_ (i := 0) (N := (some 87)) (v := ?_) (a' := ?_) #[true, false, false, false, false, false, false, false, false, false, false, false, false, false, false, false, false, false, false, false] rfl rfl (by kernel_rfl) (fun _ _ _ h => h) (Or.inl ⟨by rfl, ?_⟩) ?_ ?_
        rotate_left
        · intro w'
          go_simp
          with_reducible rfl
        rotate_left
        · simp only [Act.put, List.setIfInBounds_toArray, List.set_cons_zero, List.set_cons_succ, i64_w, i32_w]
          rfl
        refine pure_ (i := 1) (N := (some 88)) (v := ?_) (a' := ?_) #[true, true, false, false, false, false, false, false, false, false, false, false, false, false, false, false, false, false, false, false] rfl rfl (by kernel_rfl) (fun _ _ _ h => h) (Or.inl ⟨by rfl, ?_⟩) ?_ ?_
        rotate_left
        · intro w'
          go_simp
          with_reducible rfl
        rotate_left
        · simp only [Act.put, List.setIfInBounds_toArray, List.set_cons_zero, List.set_cons_succ, i64_w, i32_w]
          rfl
        refine pure_ (i := 2) (N := (some 89)) (v := ?_) (a' := ?_) #[true, true, true, false, false, false, false, false, false, false, false, false, false, false, false, false, false, false, false, false] rfl rfl (by kernel_rfl) (fun _ _ _ h => h) (Or.inl ⟨by rfl, ?_⟩) ?_ ?_
        rotate_left
        · intro w'
          go_simp
          with_reducible rfl
        rotate_left
        · simp only [Act.put, List.setIfInBounds_toArray, List.set_cons_zero, List.set_cons_succ, i64_w, i32_w]
          rfl
        refine pure_ (i := 3) (N := (some 90)) (v := ?_) (a' := ?_) #[true, true, true, true, false, false, false, false, false, false, false, false, false, false, false, false, false, false, false, false] rfl rfl (by kernel_rfl) (fun _ _ _ h => h) (Or.inl ⟨by rfl, ?_⟩) ?_ ?_
        rotate_left
        · intro w'
          go_simp
          with_reducible rfl
        rotate_left
        · simp only [Act.put, List.setIfInBounds_toArray, List.set_cons_zero, List.set_cons_succ, i64_w, i32_w]
          rfl
        refine take_ (i := 4) (N := (some 91)) (v := ?_) (a' := ?_) #[true, true, true, true, true, false, false, false, false, false, false, false, false, false, false, false, false, false, false, false] rfl rfl (by kernel_rfl) (fun _ _ _ h => h) (Or.inl ⟨by rfl, ?_⟩) hHeld ?_ ?_
        rotate_left
        · rintro w' ⟨s0, s1, s2, s3, s4, s5⟩
          go_simp
          with_reducible rfl
        rotate_left
        · simp only [Act.put, List.setIfInBounds_toArray, List.set_cons_zero, List.set_cons_succ, i64_w, i32_w]
          rfl
        refine pure_ (i := 5) (N := (some 92)) (v := ?_) (a' := ?_) #[true, true, true, true, true, true, false, false, false, false, false, false, false, false, false, false, false, false, false, false] rfl rfl (by kernel_rfl) (fun _ _ _ h => h) (Or.inl ⟨by rfl, ?_⟩) ?_ ?_
        rotate_left
        · intro w'
          go_simp
          with_reducible rfl
        rotate_left
        · simp only [Act.put, List.setIfInBounds_toArray, List.set_cons_zero, List.set_cons_succ, i64_w, i32_w]
          rfl
        refine take_ (i := 6) (N := (some 93)) (v := ?_) (a' := ?_) #[true, true, true, true, true, true, true, false, false, false, false, false, false, false, false, false, false, false, false, false] rfl rfl (by kernel_rfl) (fun _ _ _ h => h) (Or.inl ⟨by rfl, ?_⟩) hHeld ?_ ?_
        rotate_left
        · rintro w' ⟨s0, s1, s2, s3, s4, s5⟩
          go_simp
          with_reducible rfl
        rotate_left
        · simp only [Act.put, List.setIfInBounds_toArray, List.set_cons_zero, List.set_cons_succ, i64_w, i32_w]
          rfl
        refine pure_ (i := 7) (N := (some 94)) (v := ?_) (a' := ?_) #[true, true, true, true, true, true, true, true, false, false, false, false, false, false, false, false, false, false, false, false] rfl rfl (by kernel_rfl) (fun _ _ _ h => h) (Or.inl ⟨by rfl, ?_⟩) ?_ ?_
        rotate_left
        · intro w'
          go_simp
          with_reducible rfl
        rotate_left
        · simp only [Act.put, List.setIfInBounds_toArray, List.set_cons_zero, List.set_cons_succ, i64_w, i32_w]
          rfl
        refine pure_ (i := 8) (N := (some 95)) (v := ?_) (a' := ?_) #[true, true, true, true, true, true, true, true, true, false, false, false, false, false, false, false, false, false, false, false] rfl rfl (by kernel_rfl) (fun _ _ _ h => h) (Or.inl ⟨by rfl, ?_⟩) ?_ ?_
        rotate_left
        · intro w'
          go_simp
          with_reducible rfl
        rotate_left
        · simp only [Act.put, List.setIfInBounds_toArray, List.set_cons_zero, List.set_cons_succ, i64_w, i32_w]
          rfl
        refine take_ (i := 9) (N := (some 96)) (v := ?_) (a' := ?_) #[true, true, true, true, true, true, true, true, true, true, false, false, false, false, false, false, false, false, false, false] rfl rfl (by kernel_rfl) (fun _ _ _ h => h) (Or.inl ⟨by rfl, ?_⟩) hHeld ?_ ?_
        rotate_left
        · rintro w' ⟨s0, s1, s2, s3, s4, s5⟩
          go_simp
          with_reducible rfl
        rotate_left
        · simp only [Act.put, List.setIfInBounds_toArray, List.set_cons_zero, List.set_cons_succ, i64_w, i32_w]
          rfl
        refine pure_ (i := 10) (N := (some 97)) (v := ?_) (a' := ?_) #[true, true, true, true, true, true, true, true, true, true, true, false, false, false, false, false, false, false, false, false] rfl rfl (by kernel_rfl) (fun _ _ _ h => h) (Or.inl ⟨by rfl, ?_⟩) ?_ ?_
        rotate_left
        · intro w'
          go_simp
          with_reducible rfl
        rotate_left
        · simp only [Act.put, List.setIfInBounds_toArray, List.set_cons_zero, List.set_cons_succ, i64_w, i32_w]
          rfl
        refine take_ (i := 11) (N := (some 98)) (v := ?_) (a' := ?_) #[true, true, true, true, true, true, true, true, true, true, true, true, false, false, false, false, false, false, false, false] rfl rfl (by kernel_rfl) (fun _ _ _ h => h) (Or.inl ⟨by rfl, ?_⟩) hHeld ?_ ?_
        rotate_left
        · rintro w' ⟨s0, s1, s2, s3, s4, s5⟩
          go_simp
          with_reducible rfl
        rotate_left
        · simp only [Act.put, List.setIfInBounds_toArray, List.set_cons_zero, List.set_cons_succ, i64_w, i32_w]
          rfl
        refine pure_ (i := 12) (N := (some 99)) (v := ?_) (a' := ?_) #[true, true, true, true, true, true, true, true, true, true, true, true, true, false, false, false, false, false, false, false] rfl rfl (by kernel_rfl) (fun _ _ _ h => h) (Or.inl ⟨by rfl, ?_⟩) ?_ ?_
        rotate_left
        · intro w'
          go_simp
          with_reducible rfl
        rotate_left
        · simp only [Act.put, List.setIfInBounds_toArray, List.set_cons_zero, List.set_cons_succ, i64_w, i32_w]
          rfl
        refine take_ (i := 13) (N := (some 100)) (v := ?_) (a' := ?_) #[true, true, true, true, true, true, true, true, true, true, true, true, true, true, false, false, false, false, false, false] rfl rfl (by kernel_rfl) (fun _ _ _ h => h) (Or.inl ⟨by rfl, ?_⟩) hHeld ?_ ?_
        rotate_left
        · rintro w' ⟨s0, s1, s2, s3, s4, s5⟩
          go_simp
          with_reducible rfl
        rotate_left
        · simp only [Act.put, List.setIfInBounds_toArray, List.set_cons_zero, List.set_cons_succ, i64_w, i32_w]
          rfl
        refine pure_ (i := 14) (N := (some 101)) (v := ?_) (a' := ?_) #[true, true, true, true, true, true, true, true, true, true, true, true, true, true, true, false, false, false, false, false] rfl rfl (by kernel_rfl) (fun _ _ _ h => h) (Or.inl ⟨by rfl, ?_⟩) ?_ ?_
        rotate_left
        · intro w'
          go_simp
          with_reducible rfl
        rotate_left
        · simp only [Act.put, List.setIfInBounds_toArray, List.set_cons_zero, List.set_cons_succ, i64_w, i32_w]
          rfl
        refine one_ (i := 15) (N := (some 102)) #[true, true, true, true, true, true, true, true, true, true, true, true, true, true, true, true, false, false, false, false] rfl rfl (by kernel_rfl) (by decide) (fun K hK => ?_)
        go_simp
        have bp8 := blk_alloc hL8.out.blk (.cells #[.bool false, .int .i64 inst, .int .i64 turn, .string name] 36)
        have bw8 := blk_alloc B47 (.cells #[.bool false, .int .i64 inst, .int .i64 turn, .string name] 36)
        have bz8 := blk_alloc B67 (.cells #[.bool false, .int .i64 inst, .int .i64 turn, .string name] 36)
        have bn8 := blk_alloc b10 (.cells #[.bool false, .int .i64 inst, .int .i64 turn, .string name] 36)
        refine hK.out _ _ ⟨(blk_cell (w := (W7.alloc (.cells #[.bool false, .int .i64 inst, .int .i64 turn, .string name] 36)).drew) bp8 1).trans rfl, blk_frozen (w := (W7.alloc (.cells #[.bool false, .int .i64 inst, .int .i64 turn, .string name] 36)).drew) bp8 1, (blk_cell (w := (W7.alloc (.cells #[.bool false, .int .i64 inst, .int .i64 turn, .string name] 36)).drew) bw8 0).trans rfl, (blk_cell (w := (W7.alloc (.cells #[.bool false, .int .i64 inst, .int .i64 turn, .string name] 36)).drew) bw8 1).trans rfl, (blk_cell (w := (W7.alloc (.cells #[.bool false, .int .i64 inst, .int .i64 turn, .string name] 36)).drew) bw8 2).trans rfl, (blk_cell (w := (W7.alloc (.cells #[.bool false, .int .i64 inst, .int .i64 turn, .string name] 36)).drew) bw8 3).trans rfl⟩ (fun hHeld => ?_)
        clear hK K
        refine one_ (i := 16) (N := (some 103)) #[true, true, true, true, true, true, true, true, true, true, true, true, true, true, true, true, true, false, false, false] rfl rfl (by kernel_rfl) (by decide) (fun K hK => ?_)
        refine step_append_lies _ (by rfl) _ _ _ (by rfl) base 36 i0 _ 4 40 Try.underlying33 hi0 hz0 hz1 hz2 rfl (by omega) ev S.E.length inner (by rfl) ((hown'.out.alloc _).drew) ⟨W7.heap.size, 0, none⟩ 1 1 [.bool false, .int .i64 inst, .int .i64 turn, .string name] (by rfl) (by rfl) (World.news_of_block (cs := #[.bool false, .int .i64 inst, .int .i64 turn, .string name]) (t := 36) (fr := (0, 0)) (heap_alloc_new W7 _)) (by simp [Value.oneCell']) (by omega) (by unfold maxLen; omega) (by omega) (by simp; omega) (W7.heap.size + 1) (by simp) ?_
        intro gg cap w8 hown8 hgrow hat8 hlt8
        have cp8 := blk_grown (w := (W7.alloc (.cells #[.bool false, .int .i64 inst, .int .i64 turn, .string name] 36)).drew) bp8 hgrow hnp
        have cw8 := blk_grown (w := (W7.alloc (.cells #[.bool false, .int .i64 inst, .int .i64 turn, .string name] 36)).drew) bw8 hgrow hnw
        have cz8 := blk_grown (w := (W7.alloc (.cells #[.bool false, .int .i64 inst, .int .i64 turn, .string name] 36)).drew) bz8 hgrow hnz
        have cn8 := blk_grown (w := (W7.alloc (.cells #[.bool false, .int .i64 inst, .int .i64 turn, .string name] 36)).drew) bn8 hgrow hnn
        refine hK.out _ _ ⟨(blk_cell cp8 1).trans rfl, blk_frozen cp8 1, (blk_cell cw8 0).trans rfl, (blk_cell cw8 1).trans rfl, (blk_cell cw8 2).trans rfl, (blk_cell cw8 3).trans rfl⟩ (fun hHeld => ?_)
        clear hK K
        refine pure_ (i := 17) (N := (some 104)) (v := ?_) (a' := ?_) #[true, true, true, true, true, true, true, true, true, true, true, true, true, true, true, true, true, true, false, false] rfl rfl (by kernel_rfl) (fun _ _ _ h => h) (Or.inl ⟨by rfl, ?_⟩) ?_ ?_
        rotate_left
        · intro w'
          go_simp
          with_reducible rfl
        rotate_left
        · simp only [Act.put, List.setIfInBounds_toArray, List.set_cons_zero, List.set_cons_succ, i64_w, i32_w]
          rfl
        refine pure_ (i := 18) (N := (some 105)) (v := ?_) (a' := ?_) #[true, true, true, true, true, true, true, true, true, true, true, true, true, true, true, true, true, true, true, false] rfl rfl (by kernel_rfl) (fun _ _ _ h => h) (Or.inl ⟨by rfl, ?_⟩) ?_ ?_
        rotate_left
        · intro w'
          go_simp
          with_reducible rfl
        rotate_left
        · simp only [Act.put, List.setIfInBounds_toArray, List.set_cons_zero, List.set_cons_succ, i64_w, i32_w]
          rfl
        refine last_ (i := 19) (N := none) #[true, true, true, true, true, true, true, true, true, true, true, true, true, true, true, true, true, true, true, true] rfl rfl (by kernel_rfl) (by decide) (fun K hK => ?_)
        obtain ⟨s0, s1, -⟩ := hHeld
        go_simp
        refine hK.out _ _ ?_
        clear hK K
        refine done_ (by kernel_rfl) ?_
        refine at_world (F := Exit.then _ _ _ _) (fun W9 hW9 => ?_)
        have B69 : W9.heap[w.heap.size + 1]? = some (.cells (msgA msg0) 28 (0, 0)) := by rw [hW9]; exact blk_far cz8 (blk_ne B67 hL8.out.blk (by decide)) _
        have b19 : W9.heap[wc.heap.size]? = some (.cells (msgA ⟨3, inst, turn, name, att, okr⟩) 28 (0, 0)) := by rw [hW9]; exact blk_far cn8 (blk_ne b10 hL8.out.blk (by decide)) _
        have hfa : Fr [36] false base W7 w8 := ((Fr.refl [36] false base W7).alloc hbw7 _).drew.grown hgrow (by show base ≤ (W7.alloc _).heap.size; simp; omega) (fun q hq => by
          have h1 := own_base hown'.out q hq
          obtain ⟨cells, hc⟩ := own_typed hown'.out q hq
          refine ⟨h1, fun o ho => ?_⟩
          have h2 : (W7.alloc (.cells #[.bool false, .int .i64 inst, .int .i64 turn, .string name] 36)).heap[q]? = some o := ho
          rw [blk_alloc hc _] at h2
          cases h2
          simp [Still])
        have hfb : Fr [44, 36] false base W7 W9 := by
          rw [hW9]
          exact (hfa.mono (by simp) (by simp)).set cp8 (by simp) hL8.out.pb _ _
        have hL9 : LedAt base W9 p ⟨mput S.L (inst, turn) x', S.E ++ [effOf ⟨1, inst, turn, name, att, ok⟩]⟩ M' (fun i => if i = g then x' else ent' i) mv' (.slice (some ⟨gg, 0, none⟩) (S.E.length + 1) cap) := by
          refine hL8.out.eff hfb (by rw [hW9]; exact blk_put cp8 1 _ rfl) ?_
          rw [List.map_append]
          have hR := Kd.R_appended (d := k36) (e := 36) (base := base) (ok := fun _ => True) (okp := fun _ => False) (W := (W7.alloc (.cells #[.bool false, .int .i64 inst, .int .i64 turn, .string name] 36)).drew) (w1 := w8) (v := ev) (v1 := .slice (some ⟨gg, 0, none⟩) (S.E.length + 1) cap) (xs := S.E.map effS) (p := effS (effOf ⟨1, inst, turn, name, att, ok⟩)) (inner := inner) (cs := [.bool false, .int .i64 inst, .int .i64 turn, .string name]) (fun _ _ => trivial)
            (hreps'.out.imp_ (fun _ _ hp => hp)) (k36_mkM _ _ _ (effS (effOf ⟨1, inst, turn, name, att, ok⟩))) (fun _ h => h.elim) (fun _ _ => trivial) (by rw [List.length_map]; exact hown8) hgrow (by
              rcases hat8 with h1 | h1
              · exact .inl (by rw [h1]; rfl)
              · refine .inr ⟨gg, rfl, ?_⟩
                rw [h1]
                show (W7.alloc _).heap.size ≤ _
                simp)
          have hR2 := R_fr (T := [44]) (mp := false) hR ((Fr.refl [44] false base w8).set cp8 (by simp) hL8.out.pb 1 (.slice (some ⟨gg, 0, none⟩) (S.E.length + 1) cap)) (fun q hq => by
            have : q = 36 := by simpa [k36, Kd.iso, Kd.pair, Kd.bool, Kd.int, Kd.string, Kd.scalar] using hq
            rw [this]; simp)
          rw [hW9]
          exact hR2
        have hf9 : Fr [44, 95, 36] true base w W9 := (hf7.mono (by simp) (by simp)).trans (hfb.mono (by simp) (by simp))
        clear hW9 hgrow cp8 cw8 cz8 cn8 bp8 bw8 bz8 bn8 hfa hfb hL8 B47 B67 b10 m0 m1 m2 m3 m4 m5 n0 n1 n2 n3 n4 n5 z0 z1 z2 z3 z4 z5 y0 y1 y2 y3 y4 y5
        obtain ⟨n0, n1, n2, n3, n4, n5⟩ := msg_cells b19
        obtain ⟨z0, z1, z2, z3, z4, z5⟩ := msg_cells B69
        simp only [] at n0 n1 n2 n3 n4 n5
        have y0 := blk_frozen B69 0
        have y1 := blk_frozen B69 1
        have y2 := blk_frozen B69 2
        have y3 := blk_frozen B69 3
        have y4 := blk_frozen B69 4
        have y5 := blk_frozen B69 5
        have hL9' := Aside0.mk hL9
        clear hL9
        go_wp2
        refine bodyPost_ret (v := .tuple #[msgV (reply ⟨1, inst, turn, name, att, ok⟩ okr), .bool true]) (by simp [results, Try.results16, go_sem, msgV, reply, z0, z1, z2, z3, z4, z5]) rfl ?_
        obtain ⟨_, f6⟩ := six B69 (by omega : base ≤ w.heap.size + 1) (reply ⟨1, inst, turn, name, att, ok⟩ okr) _ rfl
        refine ⟨rfl, ⟨M', _, mv', _, hL9'.out.fr f6 (by simp) (by simp) (by simp)⟩, ?_⟩
        repeat (refine Fr.set_new ?_ (by omega) (by omega) _ _)
        exact hf9
    · obtain ⟨⟨x', okr, eff⟩, hact⟩ : ∃ a, undoIt x att acc = a := ⟨_, rfl⟩
      have hact' := Aside0.mk hact
      clear hact hk'
      go_upto_if 86 with (first | (go_at_call 41; (with_reducible refine (undoIt_calls x att acc _ hact'.out g _ (by repeat (first | exact hg0 | refine blk_alloc ?_ _ | refine blk_far ?_ (by simp; omega) _)) hatt.1 hatt.2).mono ?_); rintro e w6 ⟨rfl, hg6, hk6, hbl6⟩; have hb10 := hk6.blk (blk_new wc _) (by omega) (by simp); have c5 := blk_cell hb10 5; simp at c5; have f5 := blk_frozen hb10 5) | fail)
      refine wp_world (fun W7 hW7 => ?_)
      have b10 : W7.heap[wc.heap.size]? = some (.cells (msgA ⟨4, inst, turn, name, att, okr⟩) 28 (0, 0)) := by rw [hW7]; exact blk_put hb10 5 _ rfl
      have hL7 : LedAt base W7 p ⟨mput S.L (inst, turn) x', S.E⟩ M' (fun i => if i = g then x' else ent' i) mv' ev := by
        have h1 := hLc.out.fr ((Fr.refl [] false base wc).alloc hbw (.cells (msgA ⟨4, inst, turn, name, att, ok⟩) 28)) (by simp) (by simp) (by simp)
        have h2 := h1.put hmk.out hg6 hk6
        rw [mput_mput] at h2
        rw [hW7]
        exact h2.fr ((Fr.refl [28] false base w6).set hb10 (by simp) hbw _ _) (by simp) (by simp) (by simp)
      have hf7 : Fr [44, 95] true base w W7 := by
        have h1 : Fr [44, 95] true base w (wc.alloc (.cells (msgA ⟨4, inst, turn, name, att, ok⟩) 28)) := (hfc.out.mono (by simp) (by simp)).alloc hbase _
        rw [hW7]
        exact Fr.set_new (h1.keep (blk_alloc hg0 _) (by simp) (hbl6 _ hgb) hk6) (by omega) hbw _ _
      have B47 : W7.heap[w.heap.size]? = some (.cells (msgA ⟨2, inst, turn, name, att, ok⟩) 28 (0, 0)) := by
        rw [hW7]; exact blk_far (hk6.blk (blk_alloc B4 _) (blk_ne B4 hg0 (by decide)) (by simp)) (by simp only; omega) _
      have B67 : W7.heap[w.heap.size + 1]? = some (.cells (msgA msg0) 28 (0, 0)) := by
        rw [hW7]; exact blk_far (hk6.blk (blk_alloc B6 _) (blk_ne B6 hg0 (by decide)) (by simp)) (by simp only; omega) _
      clear hW7 hb10 c5 f5 hk6 hg6 hLc hfc B4 B6 hg0 hbl6 m0 m1 m2 m3 m4 m5
      obtain ⟨m0, m1, m2, m3, m4, m5⟩ := msg_cells B47
      obtain ⟨n0, n1, n2, n3, n4, n5⟩ := msg_cells b10
      obtain ⟨z0, z1, z2, z3, z4, z5⟩ := msg_cells B67
      simp only [] at m0 m1 m2 m3 m4 m5 n0 n1 n2 n3 n4 n5
      have y0 := blk_frozen B67 0
      have y1 := blk_frozen B67 1
      have y2 := blk_frozen B67 2
      have y3 := blk_frozen B67 3
      have y4 := blk_frozen B67 4
      have y5 := blk_frozen B67 5
      have hrr : r = (⟨mput S.L (inst, turn) x', if eff = true then S.E ++ [effOf ⟨2, inst, turn, name, att, ok⟩] else S.E⟩, reply ⟨2, inst, turn, name, att, ok⟩ okr, true) := by
        have ha : act ⟨2, inst, turn, name, att, ok⟩ x acc = (x', okr, eff) := by unfold act; rw [if_neg (by simp)]; exact hact'.out
        rw [← hr'.out]
        unfold take
        rw [if_pos ht'.out]
        simp only [hfd.out, ha]
      subst hrr
      have hL8 := Aside0.mk hL7
      clear hL7 hr'
      cases eff with
      | false =>
        go_wp2
        refine bodyPost_ret (v := .tuple #[msgV (reply ⟨2, inst, turn, name, att, ok⟩ okr), .bool true]) (by simp [results, Try.results16, go_sem, msgV, reply, z0, z1, z2, z3, z4, z5]) rfl ?_
        obtain ⟨_, f6⟩ := six B67 (by omega : base ≤ w.heap.size + 1) (reply ⟨2, inst, turn, name, att, ok⟩ okr) _ rfl
        refine ⟨rfl, ⟨M', _, mv', ev, hL8.out.fr f6 (by simp) (by simp) (by simp)⟩, ?_⟩
        repeat (refine Fr.set_new ?_ (by omega) (by omega) _ _)
        exact hf7.mono (by simp) (by simp)
      | true =>
        obtain ⟨_, inner, hown, hreps⟩ := hL8.out.E
        have hlenE : (S.E.map effS).length ≤ 1000000 := by simpa using hE
        have hsz36 : k36.sz = 4 := rfl
        have hlm : (S.E.map effS).length = S.E.length := List.length_map ..
        rw [hlm] at hown hlenE
        have hown' := Aside0.mk hown
        clear hlm
        have hreps' := Aside0.mk hreps
        clear hown hreps hE
        have p1 : W7.cell? ⟨p, 1, none⟩ = some ev := (blk_cell hL8.out.blk 1).trans rfl
        have fp1 := blk_frozen hL8.out.blk 1
        have hpl7 : p < W7.heap.size := blk_lt hL8.out.blk
        have hwl7 : w.heap.size < W7.heap.size := blk_lt B47
        have hnp : some p ≠ ev.ownBlock := own_ne hown'.out hL8.out.blk (by decide)
        have hnw : some w.heap.size ≠ ev.ownBlock := own_ne hown'.out B47 (by decide)
        have hnz : some (w.heap.size + 1) ≠ ev.ownBlock := own_ne hown'.out B67 (by decide)
        have hnn : some wc.heap.size ≠ ev.ownBlock := own_ne hown'.out b10 (by decide)
        have hbw7 : base ≤ W7.heap.size := by omega
        obtain ⟨i0, hi0, hz0, hz1, hz2⟩ := info_parts info36
        have fp2 : (W7.alloc (.cells #[.bool true, .int .i64 inst, .int .i64 turn, .string name] 36)).frozen? ⟨p, 1, none⟩ = false := blk_frozen (blk_alloc hL8.out.blk _) 1
        go_upto_region 20 with (fail)
        refine start_ (n := 20) (S := fun w' => w'.cell? ⟨p, 1, none⟩ = some ev ∧ w'.frozen? ⟨p, 1, none⟩ = false ∧ w'.cell? ⟨w.heap.size, 0, none⟩ = some (.int .i64 2) ∧ w'.cell? ⟨w.heap.size, 1, none⟩ = some (.int .i64 inst) ∧ w'.cell? ⟨w.heap.size, 2, none⟩ = some (.int .i64 turn) ∧ w'.cell? ⟨w.heap.size, 3, none⟩ = some (.string name)) (ds := [19]) #[false, false, false, false, false, false, false, false, false, false, false, false, false, false, false, false, false, false, false, false] (by kernel_rfl) rfl rfl ⟨p1, fp1, m0, m1, m2, m3⟩ (fun hHeld => ?_)
        refine pure_ (i := 0) (N := (some 87)) (v := ?_) (a' := ?_) #[true, false, false, false, false, false, false, false, false, false, false, false, false, false, false, false, false, false, false, false] rfl rfl (by kernel_rfl) (fun _ _ _ h => h) (Or.inl ⟨by rfl, ?_⟩) ?_ ?_
        rotate_left
        · intro w'
          go_simp
          with_reducible rfl
        rotate_left
        · simp only [Act.put, List.setIfInBounds_toArray, List.set_cons_zero, List.set_cons_succ, i64_w, i32_w]
          rfl
        refine pure_ (i := 1) (N := (some 88)) (v := ?_) (a' := ?_) #[true, true, false, false, false, false, false, false, false, false, false, false, false, false, false, false, false, false, false, false] rfl rfl (by kernel_rfl) (fun _ _ _ h => h) (Or.inl ⟨by rfl, ?_⟩) ?_ ?_
        rotate_left
        · intro w'
          go_simp
          with_reducible rfl
        rotate_left
        · simp only [Act.put, List.setIfInBounds_toArray, List.set_cons_zero, List.set_cons_succ, i64_w, i32_w]
          rfl
        refine pure_ (i := 2) (N := (some 89)) (v := ?_) (a' := ?_) #[true, true, true, false, false, false, false, false, false, false, false, false, false, false, false, false, false, false, false, false] rfl rfl (by kernel_rfl) (fun _ _ _ h => h) (Or.inl ⟨by rfl, ?_⟩) ?_ ?_
        rotate_left
        · intro w'
          go_simp
          with_reducible rfl
        rotate_left
        · simp only [Act.put, List.setIfInBounds_toArray, List.set_cons_zero, List.set_cons_succ, i64_w, i32_w]
          rfl
        refine pure_ (i := 3) (N := (some 90)) (v := ?_) (a' := ?_) #[true, true, true, true, false, false, false, false, false, false, false, false, false, false, false, false, false, false, false, false] rfl rfl (by kernel_rfl) (fun _ _ _ h => h) (Or.inl ⟨by rfl, ?_⟩) ?_ ?_
        rotate_left
        · intro w'
          go_simp
          with_reducible rfl
        rotate_left
        · simp only [Act.put, List.setIfInBounds_toArray, List.set_cons_zero, List.set_cons_succ, i64_w, i32_w]
          rfl
        refine take_ (i := 4) (N := (some 91)) (v := ?_) (a' := ?_) #[true, true, true, true, true, false, false, false, false, false, false, false, false, false, false, false, false, false, false, false] rfl rfl (by kernel_rfl) (fun _ _ _ h => h) (Or.inl ⟨by rfl, ?_⟩) hHeld ?_ ?_
        rotate_left
        · rintro w' ⟨s0, s1, s2, s3, s4, s5⟩
          go_simp
          with_reducible rfl
        rotate_left
        · simp only [Act.put, List.setIfInBounds_toArray, List.set_cons_zero, List.set_cons_succ, i64_w, i32_w]
          rfl
        refine pure_ (i := 5) (N := (some 92)) (v := ?_) (a' := ?_) #[true, true, true, true, true, true, false, false, false, false, false, false, false, false, false, false, false, false, false, false] rfl rfl (by kernel_rfl) (fun _ _ _ h => h) (Or.inl ⟨by rfl, ?_⟩) ?_ ?_
        rotate_left
        · intro w'
          go_simp
          with_reducible rfl
        rotate_left
        · simp only [Act.put, List.setIfInBounds_toArray, List.set_cons_zero, List.set_cons_succ, i64_w, i32_w]
          rfl
        refine take_ (i := 6) (N := (some 93)) (v := ?_) (a' := ?_) #[true, true, true, true, true, true, true, false, false, false, false, false, false, false, false, false, false, false, false, false] rfl rfl (by kernel_rfl) (fun _ _ _ h => h) (Or.inl ⟨by rfl, ?_⟩) hHeld ?_ ?_
        rotate_left
        · rintro w' ⟨s0, s1, s2, s3, s4, s5⟩
          go_simp
          with_reducible rfl
        rotate_left
        · simp only [Act.put, List.setIfInBounds_toArray, List.set_cons_zero, List.set_cons_succ, i64_w, i32_w]
          rfl
        refine pure_ (i := 7) (N := (some 94)) (v := ?_) (a' := ?_) #[true, true, true, true, true, true, true, true, false, false, false, false, false, false, false, false, false, false, false, false] rfl rfl (by kernel_rfl) (fun _ _ _ h => h) (Or.inl ⟨by rfl, ?_⟩) ?_ ?_
        rotate_left
        · intro w'
          go_simp
          with_reducible rfl
        rotate_left
        · simp only [Act.put, List.setIfInBounds_toArray, List.set_cons_zero, List.set_cons_succ, i64_w, i32_w]
          rfl
        refine pure_ (i := 8) (N := (some 95)) (v := ?_) (a' := ?_) #[true, true, true, true, true, true, true, true, true, false, false, false, false, false, false, false, false, false, false, false] rfl rfl (by kernel_rfl) (fun _ _ _ h => h) (Or.inl ⟨by rfl, ?_⟩) ?_ ?_
        rotate_left
        · intro w'
          go_simp
          with_reducible rfl
        rotate_left
        · simp only [Act.put, List.setIfInBounds_toArray, List.set_cons_zero, List.set_cons_succ, i64_w, i32_w]
          rfl
        refine take_ (i := 9) (N := (some 96)) (v := ?_) (a' := ?_) #[true, true, true, true, true, true, true, true, true, true, false, false, false, false, false, false, false, false, false, false] rfl rfl (by kernel_rfl) (fun _ _ _ h => h) (Or.inl ⟨by rfl, ?_⟩) hHeld ?_ ?_
        rotate_left
        · rintro w' ⟨s0, s1, s2, s3, s4, s5⟩
          go_simp
          with_reducible rfl
        rotate_left
        · simp only [Act.put, List.setIfInBounds_toArray, List.set_cons_zero, List.set_cons_succ, i64_w, i32_w]
          rfl
        refine pure_ (i := 10) (N := (some 97)) (v := ?_) (a' := ?_) #[true, true, true, true, true, true, true, true, true, true, true, false, false, false, false, false, false, false, false, false] rfl rfl (by kernel_rfl) (fun _ _ _ h => h) (Or.inl ⟨by rfl, ?_⟩) ?_ ?_
        rotate_left
        · intro w'
          go_simp
          with_reducible rfl
        rotate_left
        · simp only [Act.put, List.setIfInBounds_toArray, List.set_cons_zero, List.set_cons_succ, i64_w, i32_w]
          rfl
        refine take_ (i := 11) (N := (some 98)) (v := ?_) (a' := ?_) #[true, true, true, true, true, true, true, true, true, true, true, true, false, false, false, false, false, false, false, false] rfl rfl (by kernel_rfl) (fun _ _ _ h => h) (Or.inl ⟨by rfl, ?_⟩) hHeld ?_ ?_
        rotate_left
        · rintro w' ⟨s0, s1, s2, s3, s4, s5⟩
          go_simp
          with_reducible rfl
        rotate_left
        · simp only [Act.put, List.setIfInBounds_toArray, List.set_cons_zero, List.set_cons_succ, i64_w, i32_w]
          rfl
        refine pure_ (i := 12) (N := (some 99)) (v := ?_) (a' := ?_) #[true, true, true, true, true, true, true, true, true, true, true, true, true, false, false, false, false, false, false, false] rfl rfl (by kernel_rfl) (fun _ _ _ h => h) (Or.inl ⟨by rfl, ?_⟩) ?_ ?_
        rotate_left
        · intro w'
          go_simp
          with_reducible rfl
        rotate_left
        · simp only [Act.put, List.setIfInBounds_toArray, List.set_cons_zero, List.set_cons_succ, i64_w, i32_w]
          rfl
        refine take_ (i := 13) (N := (some 100)) (v := ?_) (a' := ?_) #[true, true, true, true, true, true, true, true, true, true, true, true, true, true, false, false, false, false, false, false] rfl rfl (by kernel_rfl) (fun _ _ _ h => h) (Or.inl ⟨by rfl, ?_⟩) hHeld ?_ ?_
        rotate_left
        · rintro w' ⟨s0, s1, s2, s3, s4, s5⟩
          go_simp
          with_reducible rfl
        rotate_left
        · simp only [Act.put, List.setIfInBounds_toArray, List.set_cons_zero, List.set_cons_succ, i64_w, i32_w]
          rfl
        refine pure_ (i := 14) (N := (some 101)) (v := ?_) (a' := ?_) #[true, true, true, true, true, true, true, true, true, true, true, true, true, true, true, false, false, false, false, false] rfl rfl (by kernel_rfl) (fun _ _ _ h => h) (Or.inl ⟨by rfl, ?_⟩) ?_ ?_
        rotate_left
        · intro w'
          go_simp
          with_reducible rfl
        rotate_left
        · simp only [Act.put, List.setIfInBounds_toArray, List.set_cons_zero, List.set_cons_succ, i64_w, i32_w]
          rfl
        refine one_ (i := 15) (N := (some 102)) #[true, true, true, true, true, true, true, true, true, true, true, true, true, true, true, true, false, false, false, false] rfl rfl (by kernel_rfl) (by decide) (fun K hK => ?_)
        go_simp
        have bp8 := blk_alloc hL8.out.blk (.cells #[.bool true, .int .i64 inst, .int .i64 turn, .string name] 36)
        have bw8 := blk_alloc B47 (.cells #[.bool true, .int .i64 inst, .int .i64 turn, .string name] 36)
        have bz8 := blk_alloc B67 (.cells #[.bool true, .int .i64 inst, .int .i64 turn, .string name] 36)
        have bn8 := blk_alloc b10 (.cells #[.bool true, .int .i64 inst, .int .i64 turn, .string name] 36)
        refine hK.out _ _ ⟨(blk_cell (w := (W7.alloc (.cells #[.bool true, .int .i64 inst, .int .i64 turn, .string name] 36)).drew) bp8 1).trans rfl, blk_frozen (w := (W7.alloc (.cells #[.bool true, .int .i64 inst, .int .i64 turn, .string name] 36)).drew) bp8 1, (blk_cell (w := (W7.alloc (.cells #[.bool true, .int .i64 inst, .int .i64 turn, .string name] 36)).drew) bw8 0).trans rfl, (blk_cell (w := (W7.alloc (.cells #[.bool true, .int .i64 inst, .int .i64 turn, .string name] 36)).drew) bw8 1).trans rfl, (blk_cell (w := (W7.alloc (.cells #[.bool true, .int .i64 inst, .int .i64 turn, .string name] 36)).drew) bw8 2).trans rfl, (blk_cell (w := (W7.alloc (.cells #[.bool true, .int .i64 inst, .int .i64 turn, .string name] 36)).drew) bw8 3).trans rfl⟩ (fun hHeld => ?_)
        clear hK K
        refine one_ (i := 16) (N := (some 103)) #[true, true, true, true, true, true, true, true, true, true, true, true, true, true, true, true, true, false, false, false] rfl rfl (by kernel_rfl) (by decide) (fun K hK => ?_)
        refine step_append_lies _ (by rfl) _ _ _ (by rfl) base 36 i0 _ 4 40 Try.underlying33 hi0 hz0 hz1 hz2 rfl (by omega) ev S.E.length inner (by rfl) ((hown'.out.alloc _).drew) ⟨W7.heap.size, 0, none⟩ 1 1 [.bool true, .int .i64 inst, .int .i64 turn, .string name] (by rfl) (by rfl) (World.news_of_block (cs := #[.bool true, .int .i64 inst, .int .i64 turn, .string name]) (t := 36) (fr := (0, 0)) (heap_alloc_new W7 _)) (by simp [Value.oneCell']) (by omega) (by unfold maxLen; omega) (by omega) (by simp; omega) (W7.heap.size + 1) (by simp) ?_
        intro gg cap w8 hown8 hgrow hat8 hlt8
        have cp8 := blk_grown (w := (W7.alloc (.cells #[.bool true, .int .i64 inst, .int .i64 turn, .string name] 36)).drew) bp8 hgrow hnp
        have cw8 := blk_grown (w := (W7.alloc (.cells #[.bool true, .int .i64 inst, .int .i64 turn, .string name] 36)).drew) bw8 hgrow hnw
        have cz8 := blk_grown (w := (W7.alloc (.cells #[.bool true, .int .i64 inst, .int .i64 turn, .string name] 36)).drew) bz8 hgrow hnz
        have cn8 := blk_grown (w := (W7.alloc (.cells #[.bool true, .int .i64 inst, .int .i64 turn, .string name] 36)).drew) bn8 hgrow hnn
        refine hK.out _ _ ⟨(blk_cell cp8 1).trans rfl, blk_frozen cp8 1, (blk_cell cw8 0).trans rfl, (blk_cell cw8 1).trans rfl, (blk_cell cw8 2).trans rfl, (blk_cell cw8 3).trans rfl⟩ (fun hHeld => ?_)
        clear hK K
        refine pure_ (i := 17) (N := (some 104)) (v := ?_) (a' := ?_) #[true, true, true, true, true, true, true, true, true, true, true, true, true, true, true, true, true, true, false, false] rfl rfl (by kernel_rfl) (fun _ _ _ h => h) (Or.inl ⟨by rfl, ?_⟩) ?_ ?_
        rotate_left
        · intro w'
          go_simp
          with_reducible rfl
        rotate_left
        · simp only [Act.put, List.setIfInBounds_toArray, List.set_cons_zero, List.set_cons_succ, i64_w, i32_w]
          rfl
        refine pure_ (i := 18) (N := (some 105)) (v := ?_) (a' := ?_) #[true, true, true, true, true, true, true, true, true, true, true, true, true, true, true, true, true, true, true, false] rfl rfl (by kernel_rfl) (fun _ _ _ h => h) (Or.inl ⟨by rfl, ?_⟩) ?_ ?_
        rotate_left
        · intro w'
          go_simp
          with_reducible rfl
        rotate_left
        · simp only [Act.put, List.setIfInBounds_toArray, List.set_cons_zero, List.set_cons_succ, i64_w, i32_w]
          rfl
        refine last_ (i := 19) (N := none) #[true, true, true, true, true, true, true, true, true, true, true, true, true, true, true, true, true, true, true, true] rfl rfl (by kernel_rfl) (by decide) (fun K hK => ?_)
        obtain ⟨s0, s1, -⟩ := hHeld
        go_simp
        refine hK.out _ _ ?_
        clear hK K
        refine done_ (by kernel_rfl) ?_
        refine at_world (F := Exit.then _ _ _ _) (fun W9 hW9 => ?_)
        have B69 : W9.heap[w.heap.size + 1]? = some (.cells (msgA msg0) 28 (0, 0)) := by rw [hW9]; exact blk_far cz8 (blk_ne B67 hL8.out.blk (by decide)) _
        have b19 : W9.heap[wc.heap.size]? = some (.cells (msgA ⟨4, inst, turn, name, att, okr⟩) 28 (0, 0)) := by rw [hW9]; exact blk_far cn8 (blk_ne b10 hL8.out.blk (by decide)) _
        have hfa : Fr [36] false base W7 w8 := ((Fr.refl [36] false base W7).alloc hbw7 _).drew.grown hgrow (by show base ≤ (W7.alloc _).heap.size; simp; omega) (fun q hq => by
          have h1 := own_base hown'.out q hq
          obtain ⟨cells, hc⟩ := own_typed hown'.out q hq
          refine ⟨h1, fun o ho => ?_⟩
          have h2 : (W7.alloc (.cells #[.bool true, .int .i64 inst, .int .i64 turn, .string name] 36)).heap[q]? = some o := ho
          rw [blk_alloc hc _] at h2
          cases h2
          simp [Still])
        have hfb : Fr [44, 36] false base W7 W9 := by
          rw [hW9]
          exact (hfa.mono (by simp) (by simp)).set cp8 (by simp) hL8.out.pb _ _
        have hL9 : LedAt base W9 p ⟨mput S.L (inst, turn) x', S.E ++ [effOf ⟨2, inst, turn, name, att, ok⟩]⟩ M' (fun i => if i = g then x' else ent' i) mv' (.slice (some ⟨gg, 0, none⟩) (S.E.length + 1) cap) := by
          refine hL8.out.eff hfb (by rw [hW9]; exact blk_put cp8 1 _ rfl) ?_
          rw [List.map_append]
          have hR := Kd.R_appended (d := k36) (e := 36) (base := base) (ok := fun _ => True) (okp := fun _ => False) (W := (W7.alloc (.cells #[.bool true, .int .i64 inst, .int .i64 turn, .string name] 36)).drew) (w1 := w8) (v := ev) (v1 := .slice (some ⟨gg, 0, none⟩) (S.E.length + 1) cap) (xs := S.E.map effS) (p := effS (effOf ⟨2, inst, turn, name, att, ok⟩)) (inner := inner) (cs := [.bool true, .int .i64 inst, .int .i64 turn, .string name]) (fun _ _ => trivial)
            (hreps'.out.imp_ (fun _ _ hp => hp)) (k36_mkM _ _ _ (effS (effOf ⟨2, inst, turn, name, att, ok⟩))) (fun _ h => h.elim) (fun _ _ => trivial) (by rw [List.length_map]; exact hown8) hgrow (by
              rcases hat8 with h1 | h1
              · exact .inl (by rw [h1]; rfl)
              · refine .inr ⟨gg, rfl, ?_⟩
                rw [h1]
                show (W7.alloc _).heap.size ≤ _
                simp)
          have hR2 := R_fr (T := [44]) (mp := false) hR ((Fr.refl [44] false base w8).set cp8 (by simp) hL8.out.pb 1 (.slice (some ⟨gg, 0, none⟩) (S.E.length + 1) cap)) (fun q hq => by
            have : q = 36 := by simpa [k36, Kd.iso, Kd.pair, Kd.bool, Kd.int, Kd.string, Kd.scalar] using hq
            rw [this]; simp)
          rw [hW9]
          exact hR2
        have hf9 : Fr [44, 95, 36] true base w W9 := (hf7.mono (by simp) (by simp)).trans (hfb.mono (by simp) (by simp))
        clear hW9 hgrow cp8 cw8 cz8 cn8 bp8 bw8 bz8 bn8 hfa hfb hL8 B47 B67 b10 m0 m1 m2 m3 m4 m5 n0 n1 n2 n3 n4 n5 z0 z1 z2 z3 z4 z5 y0 y1 y2 y3 y4 y5
        obtain ⟨n0, n1, n2, n3, n4, n5⟩ := msg_cells b19
        obtain ⟨z0, z1, z2, z3, z4, z5⟩ := msg_cells B69
        simp only [] at n0 n1 n2 n3 n4 n5
        have y0 := blk_frozen B69 0
        have y1 := blk_frozen B69 1
        have y2 := blk_frozen B69 2
        have y3 := blk_frozen B69 3
        have y4 := blk_frozen B69 4
        have y5 := blk_frozen B69 5
        have hL9' := Aside0.mk hL9
        clear hL9
        go_wp2
        refine bodyPost_ret (v := .tuple #[msgV (reply ⟨2, inst, turn, name, att, ok⟩ okr), .bool true]) (by simp [results, Try.results16, go_sem, msgV, reply, z0, z1, z2, z3, z4, z5]) rfl ?_
        obtain ⟨_, f6⟩ := six B69 (by omega : base ≤ w.heap.size + 1) (reply ⟨2, inst, turn, name, att, ok⟩ okr) _ rfl
        refine ⟨rfl, ⟨M', _, mv', _, hL9'.out.fr f6 (by simp) (by simp) (by simp)⟩, ?_⟩
        repeat (refine Fr.set_new ?_ (by omega) (by omega) _ _)
        exact hf9
end Go.Proofs.Ytdglbiafpofeeaa.Led
