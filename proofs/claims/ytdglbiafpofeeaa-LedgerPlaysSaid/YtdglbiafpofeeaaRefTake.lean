/- The document's Take, walked. -/
import Derived.Test.YtdglbiafpofeeaaRefCells
import Derived.Deep.CutBlock
import Derived.Deep.DeepCutAuto
import Derived.Deep.QuietTactic
import Derived.BigQuiet
namespace Go.Proofs.Ytdglbiafpofeeaa.Led
open Go.RowKit Go.Proofs.YtdglbiafpofeeaaW.PrintWords Go.Proofs.YtdglbiafpofeeaaW.PrintLast Go.Proofs.YtdglbiafpofeeaaW.PrintMore Go.Proofs.Ytdglbiafpofeeaa.PLedgerPlays
set_option linter.unusedVariables false
set_option linter.unusedSimpArgs false
structure RefAt (base : Nat) (w : World) (p : Nat) (L : List S100) (E : List S103) (lv ev : Value) : Prop where
  pb : base ≤ p
  blk : w.heap[p]? = some (.cells #[lv, ev] 41 (0, 0))
  L : Kd.R k100 100 w base (fun _ => True) lv L
  E : Kd.R k103 103 w base (fun _ => True) ev E
theorem info100 : (Try.prog.info? 100).map (fun i => (i.zero, i.size, i.bytes)) = some (some (.agg #[(.int .i64 0), (.int .i64 0), (.bool false), (.bool false), (.int .i64 0), (.int .i64 0), (.bool false), (.bool false)]), 8, 48) := by kernel_rfl
theorem rd_getD (L : List S100) (k : Nat) : rd_T100 L (k : Int) = L.getD k z100 := by simp [rd_T100]
theorem atk_le (L : List S100) (m : Msg) : ∀ k, k ≤ L.length → atk L m k ≤ L.length
  | 0, _ => Nat.le_refl _
  | k + 1, h => by
    unfold atk
    split
    · omega
    · exact atk_le L m k (by omega)
theorem ent_of (x : S100) : (⟨x.f0, x.f1, x.f2, x.f3, x.f4, x.f5, x.f6, x.f7⟩ : S100) = x := by cases x; rfl
theorem blk_new_at {w : World} {o : Obj} {g : Nat} (h : w.heap.size = g) : (w.alloc o).heap[g]? = some o := by subst h; exact blk_new _ _
theorem R_mt {α : Type} (d : Kd α) {w : World} {g e base : Nat} (h : w.heap[g]? = some (.cells #[] e (0, 0))) (hb : base ≤ g) : d.R e w base (fun _ => True) (.slice (some ⟨g, 0, none⟩) 0 0) [] :=
  ⟨fun _ _ => trivial, [], ⟨by simp, .inr ⟨g, 0, #[], rfl, hb, h, Nat.le_refl _, by decide, by simp, by simp⟩⟩, Reps.none _ _⟩
theorem one103 {W : World} {g : Nat} (x : S103) (h : W.heap[g]? = some (.cells #[.bool x.f0, .int .i64 x.f1, .int .i64 x.f2, .string x.f3] 103 (0, 0))) : Kd.C k103 W (some ⟨g, 0, none⟩) 1 [x] := by
  refine ⟨rfl, by decide, fun _ => ⟨_, rfl, fun j p hj => ?_⟩⟩
  cases j with
  | zero =>
    simp at hj
    subst hj
    refine ⟨_, rfl, k103_mk W x, fun i u hu => ?_⟩
    have := World.news_of_block h i u hu
    simpa using this
  | succ j => simp at hj
theorem keep_set_new {w w1 : World} {g p j : Nat} {u : Value} (h : KeepBut w w1 p none) (hg : w.heap.size ≤ g) : KeepBut w (w1.setCell ⟨g, j, none⟩ u) p none :=
  ⟨Nat.le_trans h.1 (by simp [World.setCell]), fun i hi hne hr => (Below.heap_setCell w1 ⟨g, j, none⟩ u i (by simp only; omega)).trans (h.2 i hi hne hr)⟩
theorem S5 {w' : World} {g p : Nat} {m : Msg} {lv ev : Value} (h : w'.heap[g]? = some (.cells (msgA m) 28 (0, 0))) (hp : w'.heap[p]? = some (.cells #[lv, ev] 41 (0, 0))) :
    w'.cell? ⟨g, 0, none⟩ = some (.int .i64 m.kind) ∧ w'.cell? ⟨g, 1, none⟩ = some (.int .i64 m.inst) ∧ w'.cell? ⟨g, 2, none⟩ = some (.int .i64 m.turn) ∧ w'.cell? ⟨g, 3, none⟩ = some (.string m.name) ∧ w'.cell? ⟨p, 1, none⟩ = some ev ∧ w'.frozen? ⟨p, 1, none⟩ = false :=
  ⟨(blk_cell h 0).trans rfl, (blk_cell h 1).trans rfl, (blk_cell h 2).trans rfl, (blk_cell h 3).trans rfl, (blk_cell hp 1).trans rfl, blk_frozen hp 1⟩
theorem S4 {w' : World} {g : Nat} {m : Msg} (h : w'.heap[g]? = some (.cells (msgA m) 28 (0, 0))) :
    w'.cell? ⟨g, 0, none⟩ = some (.int .i64 m.kind) ∧ w'.cell? ⟨g, 1, none⟩ = some (.int .i64 m.inst) ∧ w'.cell? ⟨g, 2, none⟩ = some (.int .i64 m.turn) ∧ w'.cell? ⟨g, 3, none⟩ = some (.string m.name) :=
  ⟨(blk_cell h 0).trans rfl, (blk_cell h 1).trans rfl, (blk_cell h 2).trans rfl, (blk_cell h 3).trans rfl⟩
set_option maxHeartbeats 4000000 in
set_option maxRecDepth 100000 in
theorem rTake_yes (L : List S100) (E : List S103) (m : Msg) (acc : Bool) (ht : takes m = true) (r : (List S100 × List S103) × Msg × Bool) (hr : rtake L E m acc = r) (base p : Nat) (w : World) (lv ev : Value) (hbase : base ≤ w.heap.size) (h : RefAt base w p L E lv ev) (hlen : L.length ≤ 200) (hE : E.length ≤ 100000) :
    Calls Try.prog 18 #[.pointer (some ⟨p, 0, none⟩), msgV m, .bool acc] w fun e w' => e = .returned (.tuple #[msgV r.2.1, .bool r.2.2]) ∧ (∃ lv ev, RefAt base w' p r.1.1 r.1.2 lv ev) ∧ KeepBut w w' p none ∧ Below base w w' := by
  have hf := rformed_f m
  have hfm : formed m = true := by simp [takes] at ht; exact ht.1
  have hk := takes_kind ht
  rw [hfm] at hf
  have hf' := Aside0.mk hf
  have hpl : p < w.heap.size := blk_lt h.blk
  obtain ⟨A, c, rfl, hc, hC⟩ := Kd.R_reads h.L
  have hC' := Aside0.mk hC
  have hc' := Aside0.mk hc
  have h' := Aside0.mk h
  have hr' := Aside0.mk hr
  have hm' : Aside0 (takes m = true) := ⟨ht⟩
  have hdk : decide (2 < m.kind) = false := decide_eq_false (by omega)
  obtain ⟨M, hM⟩ : ∃ M, m = M := ⟨_, rfl⟩
  obtain ⟨kind, inst, turn, name, att, ok⟩ := m
  rw [hM] at hr' hm'
  have hM' := Aside0.mk hM
  simp only [] at hdk
  clear hf hfm hk ht hr h hC hc hM
  unfold msgV
  go_enter Try.func18, Try.ntmps18
  go_upto_region 3 with (first | (go_at_call 37; (with_reducible refine (tumbrelref18_Formed.calls kind inst turn name att ok true _ hf'.out).mono ?_); rintro e w1 ⟨rfl, hb1⟩; obtain ⟨hc1, hf1⟩ := bcell hb1) | fail)
  refine wp_world (fun W hW => ?_)
  have hB4 : W.heap[w.heap.size]? = some (.cells (msgA ⟨kind, inst, turn, name, att, ok⟩) 28 (0, 0)) := by
    rw [hW]; exact blk_below (blk_alloc (blk_new w _) _) hb1
  have hB6 : W.heap[w.heap.size + 1]? = some (.cells (msgA msg0) 28 (0, 0)) := by
    rw [hW]
    have h1 := blk_new (w.alloc (.cells (msgA ⟨kind, inst, turn, name, att, ok⟩) 28)) (.cells (msgA msg0) 28)
    rw [show (w.alloc (.cells (msgA ⟨kind, inst, turn, name, att, ok⟩) 28)).heap.size = w.heap.size + 1 from by simp] at h1
    exact blk_below h1 hb1
  have hWB : Below w.heap.size w W := by rw [hW]; exact below_step (below_alloc (below_alloc (Below.refl _ _) _) _) hb1
  have hWp : W.heap[p]? = some (.cells #[.slice A L.length c, ev] 41 (0, 0)) := blk_below h'.out.blk hWB
  have hWC : Kd.C k100 W A L.length L := Kd.C_below hC'.out hWB
  clear hW hb1 hc1 hf1
  have p0 : W.cell? ⟨p, 0, none⟩ = some (.slice A L.length c) := (blk_cell hWp 0).trans rfl
  obtain ⟨m0, m1, m2, m3, m4, m5⟩ := msg_cells hB4
  simp only [] at m0 m1 m2 m3 m4 m5
  have hB4' := Aside0.mk hB4
  have hB6' := Aside0.mk hB6
  have hWB' := Aside0.mk hWB
  have hWp' := Aside0.mk hWp
  have hWC' := Aside0.mk hWC
  clear hB4 hB6 hWB hWp hWC
  go_upto_block 0 with fail
  go_cut [8] (fun v8 wx => v8 = .int .i64 ((rat L M : Nat) : Int) ∧ ∃ n, wx = W.drewN n)
  case first =>
    go_wp2_with fail
    go_loopg [33, 8] (L.length + 1) (fun kq v33 v8 w' => ∃ (k n : Nat), v33 = .int .i64 (k : Int) ∧ v8 = .int .i64 ((atk L M k : Nat) : Int) ∧ Aside0 (kq + k = L.length + 1) ∧ Aside0 (k ≤ L.length) ∧ w' = W.drewN n)
    case atStart => exact ⟨0, 0, rfl, rfl, ⟨by omega⟩, ⟨by omega⟩, rfl⟩
    case round =>
      obtain ⟨k, n, rfl, rfl, hkk, hkl, rfl⟩ := hrel
      by_cases hlt : k < L.length
      · have hd : decide ((k : Int) < (L.length : Int)) = true := decide_eq_true (by omega)
        have hd' : decide (k < L.length) = true := decide_eq_true hlt
        cases gk with
        | zero => exact absurd hkk.out (by omega)
        | succ k1 =>
          have hlt' := Aside0.mk hlt
          have pk : 0 ≤ (k : Int) := by omega
          have qk : (k : Int) < (L.length : Int) := by omega
          obtain ⟨ad, e1, hx⟩ := at_T100 hWC'.out (k : Int) pk qk
          cases e1
          rw [show ((k : Int)).toNat = k from by simp, rd_getD] at hx
          have hat : Aside0 (atk L M (k + 1) = if rmatch (L.getD k z100) M = true then k else atk L M k) := ⟨rfl⟩
          obtain ⟨⟨i0, t0, b2, b3, b4, b5, b6, b7⟩, hxx⟩ : ∃ x, L.getD k z100 = x := ⟨_, rfl⟩
          rw [hxx] at hx hat
          obtain ⟨x0, x1, x2, x3, x4, x5, x6, x7⟩ := hx
          simp only [] at x0 x1
          obtain ⟨q, hq⟩ : ∃ q, atk L M k = q := ⟨_, rfl⟩
          rw [hq] at hat
          rw [hq]
          rw [← hM'.out] at hat
          simp only [rmatch] at hat
          clear hxx hq x2 x3 x4 x5 x6 x7
          by_cases h1 : i0 = inst
          · subst h1
            by_cases h2 : t0 = turn
            · subst h2
              go_upto_region 7 with fail
              go_quiet (fail)
              go_wp2
              go_roundg k1
              case measure => have := hkk.out; omega
              case rel => exact ⟨k + 1, _, by go_num, by rw [← hM'.out, hat.out]; simp, ⟨by have := hkk.out; omega⟩, ⟨by have := hlt'.out; omega⟩, rfl⟩
            · have h2' : (t0 == turn) = false := by simpa using h2
              go_upto_region 7 with fail
              go_quiet (fail)
              go_wp2
              go_roundg k1
              case measure => have := hkk.out; omega
              case rel => exact ⟨k + 1, _, by go_num, by rw [← hM'.out, hat.out]; simp [h2], ⟨by have := hkk.out; omega⟩, ⟨by have := hlt'.out; omega⟩, rfl⟩
          · have h1' : (i0 == inst) = false := by simpa using h1
            go_upto_region 7 with fail
            go_quiet (fail)
            go_wp2
            go_roundg k1
            case measure => have := hkk.out; omega
            case rel => exact ⟨k + 1, _, by go_num, by rw [← hM'.out, hat.out]; simp [h1], ⟨by have := hkk.out; omega⟩, ⟨by have := hlt'.out; omega⟩, rfl⟩
      · have hd : decide ((k : Int) < (L.length : Int)) = false := decide_eq_false (by omega)
        have hd' : decide (k < L.length) = false := decide_eq_false hlt
        have hke : k = L.length := by have := hkl.out; omega
        subst hke
        go_wp2_with fail
        go_meet
        exact ⟨rfl, ⟨_, rfl⟩⟩
  case rest =>
    obtain ⟨rfl, ⟨n, hwn⟩⟩ := hcut
    have hB4 : Aside0 (wc.heap[w.heap.size]? = some (.cells (msgA ⟨kind, inst, turn, name, att, ok⟩) 28 (0, 0))) := ⟨by rw [hwn]; exact hB4'.out⟩
    have hB6 : Aside0 (wc.heap[w.heap.size + 1]? = some (.cells (msgA msg0) 28 (0, 0))) := ⟨by rw [hwn]; exact hB6'.out⟩
    have hWB : Aside0 (Below w.heap.size w wc) := ⟨by rw [hwn]; exact pw_below_drewN hWB'.out n⟩
    have hWp : Aside0 (wc.heap[p]? = some (.cells #[.slice A L.length c, ev] 41 (0, 0))) := ⟨by rw [hwn]; exact hWp'.out⟩
    have hWC : Aside0 (Kd.C k100 wc A L.length L) := ⟨by rw [hwn]; exact Kd.C_drewN hWC'.out n⟩
    clear hwn hB4' hB6' hWB' hWp' hWC' p0 m0 m1 m2 m3 m4 m5
    have hsz2 : w.heap.size + 1 < wc.heap.size := blk_lt hB6.out
    have hsz3 : w.heap.size < wc.heap.size := by omega
    have hpl2 : p < wc.heap.size := by omega
    have p0 : wc.cell? ⟨p, 0, none⟩ = some (.slice A L.length c) := (blk_cell hWp.out 0).trans rfl
    obtain ⟨m0, m1, m2, m3, m4, m5⟩ := msg_cells hB4.out
    simp only [] at m0 m1 m2 m3 m4 m5
    have hra : rat L M ≤ L.length := atk_le L M _ (Nat.le_refl _)
    obtain ⟨a, ha⟩ : ∃ a, rat L M = a := ⟨_, rfl⟩
    rw [ha] at hra
    have ha' := Aside0.mk ha
    rw [ha]
    clear ha
    by_cases h200 : a = 200
    · subst h200
      have hres : Aside0 (r = ((L, E), msg0, false)) := ⟨by rw [← hr'.out]; unfold rtake; rw [if_pos hm'.out, if_pos ha'.out]⟩
      obtain ⟨z0, z1, z2, z3, z4, z5⟩ := msg_cells hB6.out
      simp only [msg0] at z0 z1 z2 z3 z4 z5
      have y0 := blk_frozen hB6.out 0
      have y1 := blk_frozen hB6.out 1
      have y2 := blk_frozen hB6.out 2
      have y3 := blk_frozen hB6.out 3
      have y4 := blk_frozen hB6.out 4
      have y5 := blk_frozen hB6.out 5
      go_wp2
      refine bodyPost_ret (v := .tuple #[msgV msg0, .bool false]) (by simp [results, Try.results18, go_sem, msgV, msg0, z0, z1, z2, z3, z4, z5]) rfl ?_
      rw [hres.out]
      have h6 := six (m0 := msg0) (base := w.heap.size) hB6.out (by omega) msg0 _ rfl
      have hBe := hWB.out.trans h6.2.below
      refine ⟨rfl, ⟨_, _, ⟨h'.out.pb, blk_below h'.out.blk hBe, Kd.R_below h'.out.L hBe, Kd.R_below h'.out.E hBe⟩⟩, KeepBut.of_below hBe p none, hBe.mono hbase⟩
    · have h200' : ((a : Int) == 200) = false := by simp; omega
      go_upto_if 76 with fail
      go_cut [] (fun wx => wx = wc.alloc (.cells (entA (rold L M)) 100))
      case first =>
        by_cases hal : a < L.length
        · have hd : decide ((a : Int) < (L.length : Int)) = true := decide_eq_true (by omega)
          have hd' : decide (a < L.length) = true := decide_eq_true hal
          have pk : 0 ≤ (a : Int) := by omega
          have qk : (a : Int) < (L.length : Int) := by omega
          obtain ⟨ad, e1, hx⟩ := at_T100 (Kd.C_alloc hWC.out (.cells #[.int .i64 inst, .int .i64 turn, .bool false, .bool false, .int .i64 (-1), .int .i64 (-1), .bool false, .bool false] 100)) (a : Int) pk qk
          cases e1
          have hold : Aside0 (rold L M = L.getD a z100) := ⟨by unfold rold; rw [ha'.out, if_pos hal]⟩
          rw [show ((a : Int)).toNat = a from by simp, rd_getD] at hx
          obtain ⟨⟨i0, t0, b2, b3, b4, b5, b6, b7⟩, hxx⟩ : ∃ x, L.getD a z100 = x := ⟨_, rfl⟩
          rw [hxx] at hx hold
          obtain ⟨x0, x1, x2, x3, x4, x5, x6, x7⟩ := hx
          simp only [] at x0 x1 x2 x3 x4 x5 x6 x7
          clear hxx
          go_wp2_with fail
          go_meet
          rw [hold.out]
          rfl
        · have hd : decide ((a : Int) < (L.length : Int)) = false := decide_eq_false (by omega)
          have hd' : decide (a < L.length) = false := decide_eq_false hal
          have hold : Aside0 (rold L M = ⟨inst, turn, false, false, -1, -1, false, false⟩) := ⟨by unfold rold; rw [ha'.out, if_neg hal, ← hM'.out]⟩
          go_wp2_with fail
          go_meet
          rw [hold.out]
          rfl
      case rest =>
        subst hcut
        obtain ⟨x, hx⟩ : ∃ x, rold L M = x := ⟨_, rfl⟩
        rw [hx]
        obtain ⟨⟨y, okk, eff⟩, hy⟩ : ∃ y, rent x ⟨kind, inst, turn, name, att, ok⟩ acc = y := ⟨_, rfl⟩
        have hres : Aside0 (r = ((rput L a y, if eff = true then E ++ [effR (effOf ⟨kind, inst, turn, name, att, ok⟩)] else E), reply ⟨kind, inst, turn, name, att, ok⟩ okk, true)) := ⟨by
          rw [← hr'.out]; unfold rtake; rw [if_pos hm'.out, ha'.out, if_neg h200, hx, ← hM'.out, hy]⟩
        have hy' := Aside0.mk hy
        clear hx hy hr' ha'
        have hx1 : Aside0 ((wc.alloc (.cells (entA x) 100)).heap[wc.heap.size]? = some (.cells (entA x) 100 (0, 0))) := ⟨blk_new _ _⟩
        obtain ⟨x0, x1, x2, x3, x4, x5, x6, x7⟩ := ent_cells hx1.out
        go_upto_region 17 with (first
          | (go_at_call 43; (with_reducible refine (rent_at x kind inst turn name att ok acc y okk eff hy'.out _).mono ?_); rintro e w5 ⟨rfl, hb5⟩
             have hg5 : w5.heap[wc.heap.size]? = some (.cells (entA x) 100 (0, 0)) := blk_below hx1.out hb5
             obtain ⟨u0, u1, u2, u3, u4, u5, u6, u7⟩ := ent_cells hg5
             obtain ⟨q0, q1, q2, q3, q4, q5, q6, q7⟩ := ent_frozen hg5
             have hg5' := Aside0.mk hg5
             clear hg5)
          | fail)
        refine wp_world (fun W6 hW6 => ?_)
        have e8 := eight hg5'.out y W6 hW6
        have hb56 : Below (wc.heap.size + 1) (wc.alloc (.cells (entA x) 100)) w5 := by
          have := hb5
          rw [show (wc.alloc (.cells (entA x) 100)).heap.size = wc.heap.size + 1 from by simp] at this
          exact this
        have hWB6 : Below w.heap.size w W6 := (hWB.out.trans ((below_alloc (Below.refl _ _) _).mono (by omega))).trans ((hb56.mono (by omega)).trans (e8.2.2 _ (by omega)))
        have far : ∀ (i : Nat) (o : Obj), wc.heap[i]? = some o → W6.heap[i]? = some o := fun i o ho => by
          have hlt := blk_lt ho
          have h1 := blk_below (blk_alloc ho (.cells (entA x) 100)) hb5
          exact (e8.2.1.2 i (blk_lt h1) (by omega) (by simp)).trans h1
        have hx6 := e8.1
        have h64 := far _ _ hB4.out
        have h66 := far _ _ hB6.out
        have h6p := far _ _ hWp.out
        have h6C : Kd.C k100 W6 A L.length L := Kd.C_below hC'.out hWB6
        have hLL : (L.length : Int) ≤ 200 := by omega
        have p6 : W6.cell? ⟨p, 0, none⟩ = some (.slice A L.length c) := (blk_cell h6p 0).trans rfl
        obtain ⟨x0, x1, x2, x3, x4, x5, x6, x7⟩ := ent_cells hx6
        have hx6' := Aside0.mk hx6
        have h64' := Aside0.mk h64
        have h66' := Aside0.mk h66
        have h6p' := Aside0.mk h6p
        have h6C' := Aside0.mk h6C
        have hWB6' := Aside0.mk hWB6
        have e8' := Aside0.mk e8
        obtain ⟨ia, hia, hia1, hia2, _⟩ := info_parts info100
        have hcut := cut_to (P := Try.prog) 38 100 .i64 Try.underlying38 hia A L.length c (a : Int) (by omega) (by omega) hc'.out
        rw [show ((a : Int)).toNat = a from by simp] at hcut
        have hs6 := hWB6.size
        clear hx6 h64 h66 h6p h6C hWB6 e8 far hb56 hW6 hg5' hx1 hB4 hB6 hWB hWp hWC p0 m0 m1 m2 m3 m4 m5
        go_upto_region 18 with (first
          | ((with_reducible refine gate_builtin (b := .append) (xs := #[.tmp 92, .tmp 98]) rfl ?_); at_builtin
             refine Kd.R_append_rows k100 (w0 := w) w.heap.size rfl (.tmp 92) (.tmp 98) 38 100 (.agg #[(.int .i64 0), (.int .i64 0), (.bool false), (.bool false), (.int .i64 0), (.int .i64 0), (.bool false), (.bool false)]) 48 rfl Try.underlying38 info100 rfl (by decide) (by omega) (.slice none 0 0) [] (L.take a) A a c (fun _ => True) (fun _ => False) rfl rfl (Kd.R_nil _ _ _ _ _) ?aR (fun _ _ h => h) (fun _ h => h.elim) (fun _ _ => trivial) hWB6'.out ?aS ?aL ?_
             (case aR => exact (by have h9 := Kd.C_take h6C'.out (m := a) (by omega); rw [List.length_take, Nat.min_eq_left (by omega)] at h9; exact h9))
             (case aS => exact hs6)
             (case aL => simp only [List.length_nil, Nat.zero_add]; omega)
             intro v7 w7 ho7 hb7 hg7 hat7
             rw [List.nil_append] at ho7
             have h74 := blk_grown h64'.out hg7 (by simp [Value.ownBlock])
             have h76 := blk_grown h66'.out hg7 (by simp [Value.ownBlock])
             have h7p := blk_grown h6p'.out hg7 (by simp [Value.ownBlock])
             have h7x := blk_grown hx6'.out hg7 (by simp [Value.ownBlock])
             have ho7' := Aside0.mk ho7
             have hb7' := Aside0.mk hb7
             have h74' := Aside0.mk h74
             have h76' := Aside0.mk h76
             have h7p' := Aside0.mk h7p
             have h7x' := Aside0.mk h7x
             clear hg7 hat7 ho7 hb7 h74 h76 h7p h7x h64' h66' h6p' hx6' p6 x0 x1 x2 x3 x4 x5 x6 x7)
          | fail)
        have hs7 := hb7'.out.size
        obtain ⟨x0, x1, x2, x3, x4, x5, x6, x7⟩ := ent_cells h7x'.out
        go_upto_region 19 with (first
          | ((with_reducible refine gate_builtin (b := .append) (xs := #[.tmp 100, .tmp 102]) rfl ?_); at_builtin
             refine Kd.R_append k100 (w0 := w) w.heap.size rfl (.tmp 100) (.tmp 102) 38 100 (.agg #[(.int .i64 0), (.int .i64 0), (.bool false), (.bool false), (.int .i64 0), (.int .i64 0), (.bool false), (.bool false)]) 48 rfl Try.underlying38 info100 rfl (by decide) (by omega) v7 (L.take a) y [.int .i64 y.f0, .int .i64 y.f1, .bool y.f2, .bool y.f3, .int .i64 y.f4, .int .i64 y.f5, .bool y.f6, .bool y.f7] (fun _ => True) (fun _ => False) rfl rfl (k100_mkM _ _ _ y) (fun _ hk => hk.elim) (fun _ _ => trivial) ho7'.out hb7'.out hs7 ?aL ?_
             (case aL => have := List.length_take_le a L; omega)
             intro v8 w8 ho8 hb8 hg8 hat8
             have h84 := blk_grown h74'.out hg8 (Kd.R_ne ho7'.out h74'.out (by decide))
             have h86 := blk_grown h76'.out hg8 (Kd.R_ne ho7'.out h76'.out (by decide))
             have h8p := blk_grown h7p'.out hg8 (Kd.R_ne ho7'.out h7p'.out (by decide))
             have ho8' := Aside0.mk ho8
             have hb8' := Aside0.mk hb8
             have h84' := Aside0.mk h84
             have h86' := Aside0.mk h86
             have h8p' := Aside0.mk h8p
             clear hg8 hat8 ho8 hb8 h84 h86 h8p h74' h76' h7p' h7x' x0 x1 x2 x3 x4 x5 x6 x7)
          | fail)
        have hs8 := hb8'.out.size
        have p8 : w8.cell? ⟨p, 0, none⟩ = some (.slice A L.length c) := (blk_cell h8p'.out 0).trans rfl
        clear hcut
        go_upto_if 110 with fail
        go_cut [13] (fun v13 wx => ∃ v9, v13 = v9 ∧ Aside0 (Kd.R k100 100 wx w.heap.size (fun _ => True) v9 (rput L a y)) ∧ Aside0 (Below w.heap.size w wx) ∧ Aside0 (wx.heap[w.heap.size]? = some (.cells (msgA ⟨kind, inst, turn, name, att, ok⟩) 28 (0, 0))) ∧ Aside0 (wx.heap[w.heap.size + 1]? = some (.cells (msgA msg0) 28 (0, 0))) ∧ Aside0 (wx.heap[p]? = some (.cells #[.slice A L.length c, ev] 41 (0, 0))))
        case first =>
          by_cases hal : a < L.length
          · have hd : decide ((a : Int) < (L.length : Int)) = true := decide_eq_true (by omega)
            have hd' : decide (a < L.length) = true := decide_eq_true hal
            have hcf := cut_from (P := Try.prog) 38 100 .i64 Try.underlying38 hia 8 hia2 A L.length c ((a : Int) + 1) (by omega) (by omega)
            rw [show ((a : Int) + 1).toNat = a + 1 from by omega] at hcf
            have hdr := Kd.C_drop (Kd.C_below hC'.out hb8'.out) (m := a + 1) (c := c) (by omega) hc'.out
            have hdrl : (L.drop (a + 1)).length = L.length - (a + 1) := List.length_drop
            rw [hdrl] at hdr
            obtain ⟨A2, hA2⟩ : ∃ A2, (if c = a + 1 then A else A.map (·.add ((a + 1) * 8))) = A2 := ⟨_, rfl⟩
            have hA2' : (if c = a + 1 then A else A.map (·.add ((a + 1) * k100.sz))) = A2 := hA2
            rw [hA2] at hcf
            rw [hA2'] at hdr
            have hdr' := Aside0.mk hdr
            have hput : Aside0 ((L.take a ++ [y]) ++ L.drop (a + 1) = rput L a y) := ⟨by unfold rput; rw [if_pos hal]⟩
            clear hA2 hA2' hdr hdrl
            go_wp2_with (first
              | ((with_reducible refine gate_builtin (b := .append) (xs := #[.tmp 111, .tmp 118]) rfl ?_); at_builtin
                 refine Kd.R_append_rows k100 (w0 := w) w.heap.size rfl (.tmp 111) (.tmp 118) 38 100 (.agg #[(.int .i64 0), (.int .i64 0), (.bool false), (.bool false), (.int .i64 0), (.int .i64 0), (.bool false), (.bool false)]) 48 rfl Try.underlying38 info100 rfl (by decide) (by omega) v8 (L.take a ++ [y]) (L.drop (a + 1)) A2 (L.length - (a + 1)) (c - (a + 1)) (fun _ => True) (fun _ => False) rfl rfl ho8'.out ?aR (fun _ _ h => h) (fun _ h => h.elim) (fun _ _ => trivial) hb8'.out ?aS ?aL ?_
                 (case aR => exact hdr'.out)
                 (case aS => exact hs8)
                 (case aL => have := List.length_take_le a L; simp only [List.length_append, List.length_singleton]; omega)
                 intro v9 w9 ho9 hb9 hg9 hat9
                 have h94 := Aside0.mk (blk_grown h84'.out hg9 (Kd.R_ne ho8'.out h84'.out (by decide)))
                 have h96 := Aside0.mk (blk_grown h86'.out hg9 (Kd.R_ne ho8'.out h86'.out (by decide)))
                 have h9p := Aside0.mk (blk_grown h8p'.out hg9 (Kd.R_ne ho8'.out h8p'.out (by decide)))
                 rw [hput.out] at ho9
                 have ho9' := Aside0.mk ho9
                 have hb9' := Aside0.mk hb9
                 clear hg9 hat9 ho9 hb9)
              | fail)
            go_meet
            exact ⟨v9, rfl, ho9', hb9', h94, h96, h9p⟩
          · have hd : decide ((a : Int) < (L.length : Int)) = false := decide_eq_false (by omega)
            have hd' : decide (a < L.length) = false := decide_eq_false hal
            have hput : Aside0 (L.take a ++ [y] = rput L a y) := ⟨by unfold rput; rw [if_neg hal, List.append_nil]⟩
            go_wp2_with fail
            go_meet
            exact ⟨v8, rfl, ⟨by rw [← hput.out]; exact ho8'.out⟩, hb8', h84', h86', h8p'⟩
        case rest =>
          obtain ⟨v9, rfl, ho9, hb9, h94, h96, h9p⟩ := hcut
          obtain ⟨A9, c9, rfl⟩ := Kd.R_slice ho9.out
          obtain ⟨L2, hL2⟩ : ∃ L2, rput L a y = L2 := ⟨_, rfl⟩
          have hL2l : L2.length ≤ 201 := by rw [← hL2]; unfold rput; split <;> simp <;> omega
          rw [hL2] at ho9 hres
          rw [hL2]
          have p9 : wc.cell? ⟨p, 0, none⟩ = some (.slice A L.length c) := (blk_cell h9p.out 0).trans rfl
          have fp9 := blk_frozen h9p.out 0
          have hs9 := hb9.out.size
          clear hL2 h84' h86' h8p' ho8' hb8' p8
          go_upto_if 124 with fail
          refine wp_world (fun W10 hW10 => ?_)
          have h10p : W10.heap[p]? = some (.cells #[.slice A9 L2.length c9, ev] 41 (0, 0)) := by rw [hW10]; exact blk_put h9p.out 0 _ rfl
          have h104 : W10.heap[w.heap.size]? = some (.cells (msgA ⟨kind, inst, turn, name, att, ok⟩) 28 (0, 0)) := by rw [hW10]; exact blk_far h94.out (by simp; omega) _
          have h106 : W10.heap[w.heap.size + 1]? = some (.cells (msgA msg0) 28 (0, 0)) := by rw [hW10]; exact blk_far h96.out (by simp; omega) _
          have hL10 : Kd.R k100 100 W10 w.heap.size (fun _ => True) (.slice A9 L2.length c9) L2 := by rw [hW10]; exact Kd.R_set ho9.out h9p.out (by intro q hq; simp [k100, Kd.iso, Kd.pair, Kd.bool, Kd.int, Kd.scalar] at hq; omega) 0 _
          have hE10 : Kd.R k103 103 W10 base (fun _ => True) ev E := by rw [hW10]; exact Kd.R_set (Kd.R_below h'.out.E (hb9.out.mono (Nat.le_refl _))) h9p.out (by intro q hq; simp [k103, Kd.iso, Kd.pair, Kd.bool, Kd.int, Kd.string, Kd.scalar] at hq; omega) 0 _
          have hK10 : KeepBut w W10 p none := by rw [hW10]; exact (KeepBut.of_below hb9.out p none).set_ _ _
          have hB10 : Below base w W10 := by rw [hW10]; exact (hb9.out.mono hbase).setCell h'.out.pb _
          obtain ⟨Ae, ce, rfl, hce, hCe⟩ := Kd.R_reads hE10
          have hs10 : w.heap.size + 1 < W10.heap.size := blk_lt h106
          have h10p' := Aside0.mk h10p
          have h104' := Aside0.mk h104
          have h106' := Aside0.mk h106
          have hL10' := Aside0.mk hL10
          have hE10' := Aside0.mk hE10
          have hK10' := Aside0.mk hK10
          have hB10' := Aside0.mk hB10
          have hCe' := Aside0.mk hCe
          clear hW10 h10p h104 h106 hL10 hE10 hK10 hB10 hCe p9 fp9 ho9 h94 h96 h9p hb9
          go_cut [] (fun wx => ∃ ev2, Aside0 (wx.heap[p]? = some (.cells #[.slice A9 L2.length c9, ev2] 41 (0, 0))) ∧ Aside0 (wx.heap[w.heap.size]? = some (.cells (msgA ⟨kind, inst, turn, name, att, ok⟩) 28 (0, 0))) ∧ Aside0 (wx.heap[w.heap.size + 1]? = some (.cells (msgA msg0) 28 (0, 0))) ∧ Aside0 (Kd.R k100 100 wx w.heap.size (fun _ => True) (.slice A9 L2.length c9) L2) ∧ Aside0 (Kd.R k103 103 wx base (fun _ => True) ev2 (if eff = true then E ++ [effR (effOf ⟨kind, inst, turn, name, att, ok⟩)] else E)) ∧ Aside0 (KeepBut w wx p none) ∧ Aside0 (Below base w wx))
          case first =>
            cases eff with
            | false =>
              go_wp2_with fail
              go_meet
              exact ⟨_, h10p', h104', h106', hL10', ⟨by simpa using hE10'.out⟩, hK10', hB10'⟩
            | true =>
              go_upto_region 23 with fail
              have hEE : Aside0 ((([] ++ E) ++ [(⟨(kind == 2), inst, turn, name⟩ : S103)]) = (if true = true then E ++ [effR (effOf ⟨kind, inst, turn, name, att, ok⟩)] else E)) := ⟨by rw [if_pos rfl, List.nil_append]; rfl⟩
              have pe1 : W10.cell? ⟨p, 1, none⟩ = some (.slice Ae E.length ce) := (blk_cell h10p'.out 1).trans rfl
              have pe2 := blk_frozen h10p'.out 1
              have hpl3 : p < W10.heap.size := by omega
              obtain ⟨m0', m1', m2', m3'⟩ := S4 (m := ⟨kind, inst, turn, name, att, ok⟩) h104'.out
              simp only [] at m0' m1' m2' m3'
              refine start_ (n := 22) (S := fun w' => w'.cell? ⟨w.heap.size, 0, none⟩ = some (.int .i64 kind) ∧ w'.cell? ⟨w.heap.size, 1, none⟩ = some (.int .i64 inst) ∧ w'.cell? ⟨w.heap.size, 2, none⟩ = some (.int .i64 turn) ∧ w'.cell? ⟨w.heap.size, 3, none⟩ = some (.string name) ∧ w'.cell? ⟨p, 1, none⟩ = some (.slice Ae E.length ce) ∧ w'.frozen? ⟨p, 1, none⟩ = false) (ds := [21]) #[false, false, false, false, false, false, false, false, false, false, false, false, false, false, false, false, false, false, false, false, false, false] (by kernel_rfl) rfl rfl ⟨m0', m1', m2', m3', pe1, pe2⟩ (fun hHeld => ?_)
              refine pure_ (i := 0) (N := (some 125)) (v := ?_) (a' := ?_) #[true, false, false, false, false, false, false, false, false, false, false, false, false, false, false, false, false, false, false, false, false, false] rfl rfl (by kernel_rfl) (fun _ _ _ h => h) (Or.inl ⟨by rfl, ?_⟩) ?_ ?_
              rotate_left
              · intro w'
                go_simp
                with_reducible rfl
              rotate_left
              · simp only [Act.put, List.setIfInBounds_toArray, List.set_cons_zero, List.set_cons_succ, i64_w, i32_w]
                rfl
              refine pure_ (i := 2) (N := (some 127)) (v := ?_) (a' := ?_) #[true, false, true, false, false, false, false, false, false, false, false, false, false, false, false, false, false, false, false, false, false, false] rfl rfl (by kernel_rfl) (fun _ _ _ h => h) (Or.inl ⟨by rfl, ?_⟩) ?_ ?_
              rotate_left
              · intro w'
                go_simp
                with_reducible rfl
              rotate_left
              · simp only [Act.put, List.setIfInBounds_toArray, List.set_cons_zero, List.set_cons_succ, i64_w, i32_w]
                rfl
              refine pure_ (i := 3) (N := (some 128)) (v := ?_) (a' := ?_) #[true, false, true, true, false, false, false, false, false, false, false, false, false, false, false, false, false, false, false, false, false, false] rfl rfl (by kernel_rfl) (fun _ _ _ h => h) (Or.inl ⟨by rfl, ?_⟩) ?_ ?_
              rotate_left
              · intro w'
                go_simp
                with_reducible rfl
              rotate_left
              · simp only [Act.put, List.setIfInBounds_toArray, List.set_cons_zero, List.set_cons_succ, i64_w, i32_w]
                rfl
              refine pure_ (i := 4) (N := (some 129)) (v := ?_) (a' := ?_) #[true, false, true, true, true, false, false, false, false, false, false, false, false, false, false, false, false, false, false, false, false, false] rfl rfl (by kernel_rfl) (fun _ _ _ h => h) (Or.inl ⟨by rfl, ?_⟩) ?_ ?_
              rotate_left
              · intro w'
                go_simp
                with_reducible rfl
              rotate_left
              · simp only [Act.put, List.setIfInBounds_toArray, List.set_cons_zero, List.set_cons_succ, i64_w, i32_w]
                rfl
              refine take_ (i := 5) (N := (some 130)) (v := ?_) (a' := ?_) #[true, false, true, true, true, true, false, false, false, false, false, false, false, false, false, false, false, false, false, false, false, false] rfl rfl (by kernel_rfl) (fun _ _ _ h => h) (Or.inl ⟨by rfl, ?_⟩) hHeld ?_ ?_
              rotate_left
              · rintro w' ⟨s0, s1, s2, s3, s4, s5⟩
                go_simp
                with_reducible rfl
              rotate_left
              · simp only [Act.put, List.setIfInBounds_toArray, List.set_cons_zero, List.set_cons_succ, i64_w, i32_w]
                rfl
              refine pure_ (i := 7) (N := (some 132)) (v := ?_) (a' := ?_) #[true, false, true, true, true, true, false, true, false, false, false, false, false, false, false, false, false, false, false, false, false, false] rfl rfl (by kernel_rfl) (fun _ _ _ h => h) (Or.inl ⟨by rfl, ?_⟩) ?_ ?_
              rotate_left
              · intro w'
                go_simp
                with_reducible rfl
              rotate_left
              · simp only [Act.put, List.setIfInBounds_toArray, List.set_cons_zero, List.set_cons_succ, i64_w, i32_w]
                rfl
              refine take_ (i := 8) (N := (some 133)) (v := ?_) (a' := ?_) #[true, false, true, true, true, true, false, true, true, false, false, false, false, false, false, false, false, false, false, false, false, false] rfl rfl (by kernel_rfl) (fun _ _ _ h => h) (Or.inl ⟨by rfl, ?_⟩) hHeld ?_ ?_
              rotate_left
              · rintro w' ⟨s0, s1, s2, s3, s4, s5⟩
                go_simp
                with_reducible rfl
              rotate_left
              · simp only [Act.put, List.setIfInBounds_toArray, List.set_cons_zero, List.set_cons_succ, i64_w, i32_w]
                rfl
              refine pure_ (i := 9) (N := (some 134)) (v := ?_) (a' := ?_) #[true, false, true, true, true, true, false, true, true, true, false, false, false, false, false, false, false, false, false, false, false, false] rfl rfl (by kernel_rfl) (fun _ _ _ h => h) (Or.inl ⟨by rfl, ?_⟩) ?_ ?_
              rotate_left
              · intro w'
                go_simp
                with_reducible rfl
              rotate_left
              · simp only [Act.put, List.setIfInBounds_toArray, List.set_cons_zero, List.set_cons_succ, i64_w, i32_w]
                rfl
              refine pure_ (i := 10) (N := (some 135)) (v := ?_) (a' := ?_) #[true, false, true, true, true, true, false, true, true, true, true, false, false, false, false, false, false, false, false, false, false, false] rfl rfl (by kernel_rfl) (fun _ _ _ h => h) (Or.inl ⟨by rfl, ?_⟩) ?_ ?_
              rotate_left
              · intro w'
                go_simp
                with_reducible rfl
              rotate_left
              · simp only [Act.put, List.setIfInBounds_toArray, List.set_cons_zero, List.set_cons_succ, i64_w, i32_w]
                rfl
              refine take_ (i := 11) (N := (some 136)) (v := ?_) (a' := ?_) #[true, false, true, true, true, true, false, true, true, true, true, true, false, false, false, false, false, false, false, false, false, false] rfl rfl (by kernel_rfl) (fun _ _ _ h => h) (Or.inl ⟨by rfl, ?_⟩) hHeld ?_ ?_
              rotate_left
              · rintro w' ⟨s0, s1, s2, s3, s4, s5⟩
                go_simp
                with_reducible rfl
              rotate_left
              · simp only [Act.put, List.setIfInBounds_toArray, List.set_cons_zero, List.set_cons_succ, i64_w, i32_w]
                rfl
              refine pure_ (i := 12) (N := (some 137)) (v := ?_) (a' := ?_) #[true, false, true, true, true, true, false, true, true, true, true, true, true, false, false, false, false, false, false, false, false, false] rfl rfl (by kernel_rfl) (fun _ _ _ h => h) (Or.inl ⟨by rfl, ?_⟩) ?_ ?_
              rotate_left
              · intro w'
                go_simp
                with_reducible rfl
              rotate_left
              · simp only [Act.put, List.setIfInBounds_toArray, List.set_cons_zero, List.set_cons_succ, i64_w, i32_w]
                rfl
              refine take_ (i := 13) (N := (some 138)) (v := ?_) (a' := ?_) #[true, false, true, true, true, true, false, true, true, true, true, true, true, true, false, false, false, false, false, false, false, false] rfl rfl (by kernel_rfl) (fun _ _ _ h => h) (Or.inl ⟨by rfl, ?_⟩) hHeld ?_ ?_
              rotate_left
              · rintro w' ⟨s0, s1, s2, s3, s4, s5⟩
                go_simp
                with_reducible rfl
              rotate_left
              · simp only [Act.put, List.setIfInBounds_toArray, List.set_cons_zero, List.set_cons_succ, i64_w, i32_w]
                rfl
              refine pure_ (i := 14) (N := (some 139)) (v := ?_) (a' := ?_) #[true, false, true, true, true, true, false, true, true, true, true, true, true, true, true, false, false, false, false, false, false, false] rfl rfl (by kernel_rfl) (fun _ _ _ h => h) (Or.inl ⟨by rfl, ?_⟩) ?_ ?_
              rotate_left
              · intro w'
                go_simp
                with_reducible rfl
              rotate_left
              · simp only [Act.put, List.setIfInBounds_toArray, List.set_cons_zero, List.set_cons_succ, i64_w, i32_w]
                rfl
              refine take_ (i := 15) (N := (some 140)) (v := ?_) (a' := ?_) #[true, false, true, true, true, true, false, true, true, true, true, true, true, true, true, true, false, false, false, false, false, false] rfl rfl (by kernel_rfl) (fun _ _ _ h => h) (Or.inl ⟨by rfl, ?_⟩) hHeld ?_ ?_
              rotate_left
              · rintro w' ⟨s0, s1, s2, s3, s4, s5⟩
                go_simp
                with_reducible rfl
              rotate_left
              · simp only [Act.put, List.setIfInBounds_toArray, List.set_cons_zero, List.set_cons_succ, i64_w, i32_w]
                rfl
              refine pure_ (i := 16) (N := (some 141)) (v := ?_) (a' := ?_) #[true, false, true, true, true, true, false, true, true, true, true, true, true, true, true, true, true, false, false, false, false, false] rfl rfl (by kernel_rfl) (fun _ _ _ h => h) (Or.inl ⟨by rfl, ?_⟩) ?_ ?_
              rotate_left
              · intro w'
                go_simp
                with_reducible rfl
              rotate_left
              · simp only [Act.put, List.setIfInBounds_toArray, List.set_cons_zero, List.set_cons_succ, i64_w, i32_w]
                rfl
              refine join_ (σ := Nat × Value × Nat) 4 #[true, true, true, true, true, true, true, true, true, true, true, true, true, true, true, true, true, true, false, false, false, false] (fun s => [(126, .slice (some ⟨s.1, 0, none⟩) 0 0), (131, s.2.1), (142, .slice (some ⟨s.2.2, 0, none⟩) 1 1)]) (fun s w' => Kd.R k103 103 w' W10.heap.size (fun _ => True) s.2.1 ([] ++ E) ∧ Kd.C k103 w' (some ⟨s.2.2, 0, none⟩) 1 [(⟨(kind == 2), inst, turn, name⟩ : S103)] ∧ Below W10.heap.size W10 w') ?_ ?_
              · intro s w' hF
                refine norm_ (a' := ?_) ?_ ?_
                rotate_left
                · simp only [putAll, Act.put, List.setIfInBounds_toArray, List.set_cons_zero, List.set_cons_succ, i64_w, i32_w]
                  rfl
                obtain ⟨hF1, hF2, hF3⟩ := hF
                have hHeld := S5 (g := w.heap.size) (p := p) (m := ⟨kind, inst, turn, name, att, ok⟩) (blk_below h104'.out hF3) (blk_below h10p'.out hF3)
                have hsw' := hF3.size
                refine one_ (i := 18) (N := (some 143)) #[true, true, true, true, true, true, true, true, true, true, true, true, true, true, true, true, true, true, true, false, false, false] rfl rfl (by kernel_rfl) (by decide) (fun K hK => ?_)
                refine Kd.R_append_rows_step k103 (w0 := W10) W10.heap.size (by rfl) (.tmp 131) (.tmp 142) 39 103 (.agg #[(.bool false), (.int .i64 0), (.int .i64 0), (.string ⟨#[]⟩)]) 40 (by rfl) Try.underlying39 info103 rfl (by decide) (by omega) s.2.1 ([] ++ E) [(⟨(kind == 2), inst, turn, name⟩ : S103)] _ 1 1 (fun _ => True) (fun _ => False) (by rfl) (by rfl) hF1 hF2 (fun _ _ h => h) (fun _ h => h.elim) (fun _ _ => trivial) hF3 hsw' (by simp; omega) ?_
                intro v12 w12 ho12 hb12 hg12 hat12
                obtain ⟨A12, c12, e12⟩ := Kd.R_slice ho12
                have e13 : v12 = .slice A12 (E.length + 1) c12 := (by rw [e12]; simp)
                clear e12
                subst e13
                have ho12' := Aside0.mk ho12
                clear ho12
                refine hK.out _ _ (S5 (g := w.heap.size) (p := p) (m := ⟨kind, inst, turn, name, att, ok⟩) (blk_below h104'.out hb12) (blk_below h10p'.out hb12)) (fun hHeld => ?_)
                clear hK K
                refine pure_ (i := 19) (N := (some 144)) (v := ?_) (a' := ?_) #[true, true, true, true, true, true, true, true, true, true, true, true, true, true, true, true, true, true, true, true, false, false] rfl rfl (by kernel_rfl) (fun _ _ _ h => h) (Or.inl ⟨by rfl, ?_⟩) ?_ ?_
                rotate_left
                · intro w'
                  go_simp
                  with_reducible rfl
                rotate_left
                · simp only [Act.put, List.setIfInBounds_toArray, List.set_cons_zero, List.set_cons_succ, i64_w, i32_w]
                  rfl
                refine pure_ (i := 20) (N := (some 145)) (v := ?_) (a' := ?_) #[true, true, true, true, true, true, true, true, true, true, true, true, true, true, true, true, true, true, true, true, true, false] rfl rfl (by kernel_rfl) (fun _ _ _ h => h) (Or.inl ⟨by rfl, ?_⟩) ?_ ?_
                rotate_left
                · intro w'
                  go_simp
                  with_reducible rfl
                rotate_left
                · simp only [Act.put, List.setIfInBounds_toArray, List.set_cons_zero, List.set_cons_succ, i64_w, i32_w]
                  rfl
                refine last_ (i := 21) (N := none) #[true, true, true, true, true, true, true, true, true, true, true, true, true, true, true, true, true, true, true, true, true, true] rfl rfl (by kernel_rfl) (by decide) (fun K hK => ?_)
                obtain ⟨-, -, -, -, s4, s5⟩ := hHeld
                go_simp
                refine hK.out _ _ ?_
                clear hK K
                refine done_ (by kernel_rfl) ?_
                go_wp2_with fail
                go_meet
                refine ⟨_, ⟨blk_put (blk_below h10p'.out hb12) 1 _ rfl⟩, ⟨blk_far (blk_below h104'.out hb12) (by simp; omega) _⟩, ⟨blk_far (blk_below h106'.out hb12) (by simp; omega) _⟩, ⟨Kd.R_set (Kd.R_below hL10'.out hb12) (blk_below h10p'.out hb12) (by intro q hq; simp [k100, Kd.iso, Kd.pair, Kd.bool, Kd.int, Kd.scalar] at hq; omega) 1 _⟩, ⟨?_⟩, ⟨hK10'.out.trans ((KeepBut.of_below hb12 p none).set_ 1 _) (.inl rfl)⟩, ⟨(hB10'.out.trans (hb12.mono (by omega))).setCell h'.out.pb _⟩⟩
                rw [← hEE.out]
                exact Kd.R_set (Kd.R_lower (base' := base) (base := W10.heap.size) ho12'.out (by omega)) (blk_below h10p'.out hb12) (by intro q hq; simp [k103, Kd.iso, Kd.pair, Kd.bool, Kd.int, Kd.string, Kd.scalar] at hq; omega) 1 _
              · intro hj
                refine two_ (i := 1) (j := 17) (Ni := (some 126)) (Nj := (some 142)) #[true, true, true, true, true, true, false, true, true, true, true, true, true, true, true, true, true, false, false, false, false, false] #[true, false, true, true, true, true, false, true, true, true, true, true, true, true, true, true, true, true, false, false, false, false] rfl rfl rfl rfl (by kernel_rfl) (by decide) (by decide) (fun K hK => ?_) (fun K hK => ?_)
                · go_simp
                  refine hK.out _ _ (S5 (g := w.heap.size) (p := p) (m := ⟨kind, inst, turn, name, att, ok⟩) (blk_below h104'.out (by repeat (first | (with_reducible exact Below.refl _ _) | (with_reducible exact hb11) | (with_reducible refine below_drew ?_) | (with_reducible refine below_alloc ?_ _)))) (blk_below h10p'.out (by repeat (first | (with_reducible exact Below.refl _ _) | (with_reducible exact hb11) | (with_reducible refine below_drew ?_) | (with_reducible refine below_alloc ?_ _))))) (fun hHeld => ?_)
                  clear hK K
                  refine two_ (i := 6) (j := 17) (Ni := (some 131)) (Nj := (some 142)) #[true, true, true, true, true, true, true, true, true, true, true, true, true, true, true, true, true, false, false, false, false, false] #[true, true, true, true, true, true, false, true, true, true, true, true, true, true, true, true, true, true, false, false, false, false] rfl rfl rfl rfl (by kernel_rfl) (by decide) (by decide) (fun K hK => ?_) (fun K hK => ?_)
                  · refine Kd.R_append_rows_step k103 (w0 := W10) W10.heap.size (by rfl) (.tmp 126) (.tmp 130) 39 103 (.agg #[(.bool false), (.int .i64 0), (.int .i64 0), (.string ⟨#[]⟩)]) 40 (by rfl) Try.underlying39 info103 rfl (by decide) (by omega) _ [] E Ae E.length ce (fun _ => True) (fun _ => False) (by rfl) (by rfl) (R_mt k103 (by repeat (first | (with_reducible exact blk_new_at (by simp)) | (with_reducible refine blk_alloc ?_ _) | (with_reducible refine blk_drew ?_))) (by first | omega | (simp; omega))) (Kd.C_below hCe'.out (by repeat (first | (with_reducible exact Below.refl _ _) | (with_reducible exact hb11) | (with_reducible refine below_drew ?_) | (with_reducible refine below_alloc ?_ _)))) (fun _ _ h => h) (fun _ h => h.elim) (fun _ _ => trivial) (by repeat (first | (with_reducible exact Below.refl _ _) | (with_reducible exact hb11) | (with_reducible refine below_drew ?_) | (with_reducible refine below_alloc ?_ _))) (by simp; try omega) (by simp; omega) ?_
                    intro v11 w11 ho11 hb11 hg11 hat11
                    refine hK.out _ _ (S5 (g := w.heap.size) (p := p) (m := ⟨kind, inst, turn, name, att, ok⟩) (blk_below h104'.out hb11) (blk_below h10p'.out hb11)) (fun hHeld => ?_)
                    clear hK K
                    refine norm_ (a' := Act.put _ (some 131) v11) (by rfl) ?_
                    refine one_ (i := 17) (N := (some 142)) #[true, true, true, true, true, true, true, true, true, true, true, true, true, true, true, true, true, true, false, false, false, false] rfl rfl (by kernel_rfl) (by decide) (fun K hK => ?_)
                    have hs11 := hb11.size
                    go_simp
                    refine hK.out _ _ (S5 (g := w.heap.size) (p := p) (m := ⟨kind, inst, turn, name, att, ok⟩) (blk_below h104'.out (by repeat (first | (with_reducible exact Below.refl _ _) | (with_reducible exact hb11) | (with_reducible refine below_drew ?_) | (with_reducible refine below_alloc ?_ _)))) (blk_below h10p'.out (by repeat (first | (with_reducible exact Below.refl _ _) | (with_reducible exact hb11) | (with_reducible refine below_drew ?_) | (with_reducible refine below_alloc ?_ _))))) (fun hHeld => ?_)
                    clear hK K
                    exact norm_ (by simp only [putAll, Act.put, List.setIfInBounds_toArray, List.set_cons_zero, List.set_cons_succ, i64_w, i32_w]) (hj (W10.heap.size, v11, w11.heap.size) _ ⟨Kd.R_alloc ho11 _, (one103 (⟨(kind == 2), inst, turn, name⟩ : S103) (by repeat (first | (with_reducible exact blk_new_at (by simp)) | (with_reducible refine blk_grown ?_ hg11 (by simp [Value.ownBlock])) | (with_reducible refine blk_alloc ?_ _) | (with_reducible refine blk_drew ?_)))), (below_alloc hb11 _)⟩)
                  · go_simp
                    refine hK.out _ _ (S5 (g := w.heap.size) (p := p) (m := ⟨kind, inst, turn, name, att, ok⟩) (blk_below h104'.out (by repeat (first | (with_reducible exact Below.refl _ _) | (with_reducible exact hb11) | (with_reducible refine below_drew ?_) | (with_reducible refine below_alloc ?_ _)))) (blk_below h10p'.out (by repeat (first | (with_reducible exact Below.refl _ _) | (with_reducible exact hb11) | (with_reducible refine below_drew ?_) | (with_reducible refine below_alloc ?_ _))))) (fun hHeld => ?_)
                    clear hK K
                    refine one_ (i := 6) (N := (some 131)) #[true, true, true, true, true, true, true, true, true, true, true, true, true, true, true, true, true, true, false, false, false, false] rfl rfl (by kernel_rfl) (by decide) (fun K hK => ?_)
                    refine Kd.R_append_rows_step k103 (w0 := W10) W10.heap.size (by rfl) (.tmp 126) (.tmp 130) 39 103 (.agg #[(.bool false), (.int .i64 0), (.int .i64 0), (.string ⟨#[]⟩)]) 40 (by rfl) Try.underlying39 info103 rfl (by decide) (by omega) _ [] E Ae E.length ce (fun _ => True) (fun _ => False) (by rfl) (by rfl) (R_mt k103 (by repeat (first | (with_reducible exact blk_new_at (by simp)) | (with_reducible refine blk_alloc ?_ _) | (with_reducible refine blk_drew ?_))) (by first | omega | (simp; omega))) (Kd.C_below hCe'.out (by repeat (first | (with_reducible exact Below.refl _ _) | (with_reducible exact hb11) | (with_reducible refine below_drew ?_) | (with_reducible refine below_alloc ?_ _)))) (fun _ _ h => h) (fun _ h => h.elim) (fun _ _ => trivial) (by repeat (first | (with_reducible exact Below.refl _ _) | (with_reducible exact hb11) | (with_reducible refine below_drew ?_) | (with_reducible refine below_alloc ?_ _))) (by simp; try omega) (by simp; omega) ?_
                    intro v11 w11 ho11 hb11 hg11 hat11
                    refine hK.out _ _ (S5 (g := w.heap.size) (p := p) (m := ⟨kind, inst, turn, name, att, ok⟩) (blk_below h104'.out hb11) (blk_below h10p'.out hb11)) (fun hHeld => ?_)
                    clear hK K
                    refine norm_ (a' := Act.put _ (some 131) v11) (by rfl) ?_
                    exact norm_ (by simp only [putAll, Act.put, List.setIfInBounds_toArray, List.set_cons_zero, List.set_cons_succ, i64_w, i32_w]) (hj (W10.heap.size, v11, W10.heap.size + 1) _ ⟨ho11, (one103 (⟨(kind == 2), inst, turn, name⟩ : S103) (by repeat (first | (with_reducible exact blk_new_at (by simp)) | (with_reducible refine blk_grown ?_ hg11 (by simp [Value.ownBlock])) | (with_reducible refine blk_alloc ?_ _) | (with_reducible refine blk_drew ?_)))), hb11⟩)
                · go_simp
                  refine hK.out _ _ (S5 (g := w.heap.size) (p := p) (m := ⟨kind, inst, turn, name, att, ok⟩) (blk_below h104'.out (by repeat (first | (with_reducible exact Below.refl _ _) | (with_reducible exact hb11) | (with_reducible refine below_drew ?_) | (with_reducible refine below_alloc ?_ _)))) (blk_below h10p'.out (by repeat (first | (with_reducible exact Below.refl _ _) | (with_reducible exact hb11) | (with_reducible refine below_drew ?_) | (with_reducible refine below_alloc ?_ _))))) (fun hHeld => ?_)
                  clear hK K
                  refine one_ (i := 1) (N := (some 126)) #[true, true, true, true, true, true, false, true, true, true, true, true, true, true, true, true, true, true, false, false, false, false] rfl rfl (by kernel_rfl) (by decide) (fun K hK => ?_)
                  go_simp
                  refine hK.out _ _ (S5 (g := w.heap.size) (p := p) (m := ⟨kind, inst, turn, name, att, ok⟩) (blk_below h104'.out (by repeat (first | (with_reducible exact Below.refl _ _) | (with_reducible exact hb11) | (with_reducible refine below_drew ?_) | (with_reducible refine below_alloc ?_ _)))) (blk_below h10p'.out (by repeat (first | (with_reducible exact Below.refl _ _) | (with_reducible exact hb11) | (with_reducible refine below_drew ?_) | (with_reducible refine below_alloc ?_ _))))) (fun hHeld => ?_)
                  clear hK K
                  refine one_ (i := 6) (N := (some 131)) #[true, true, true, true, true, true, true, true, true, true, true, true, true, true, true, true, true, true, false, false, false, false] rfl rfl (by kernel_rfl) (by decide) (fun K hK => ?_)
                  refine Kd.R_append_rows_step k103 (w0 := W10) W10.heap.size (by rfl) (.tmp 126) (.tmp 130) 39 103 (.agg #[(.bool false), (.int .i64 0), (.int .i64 0), (.string ⟨#[]⟩)]) 40 (by rfl) Try.underlying39 info103 rfl (by decide) (by omega) _ [] E Ae E.length ce (fun _ => True) (fun _ => False) (by rfl) (by rfl) (R_mt k103 (by repeat (first | (with_reducible exact blk_new_at (by simp)) | (with_reducible refine blk_alloc ?_ _) | (with_reducible refine blk_drew ?_))) (by first | omega | (simp; omega))) (Kd.C_below hCe'.out (by repeat (first | (with_reducible exact Below.refl _ _) | (with_reducible exact hb11) | (with_reducible refine below_drew ?_) | (with_reducible refine below_alloc ?_ _)))) (fun _ _ h => h) (fun _ h => h.elim) (fun _ _ => trivial) (by repeat (first | (with_reducible exact Below.refl _ _) | (with_reducible exact hb11) | (with_reducible refine below_drew ?_) | (with_reducible refine below_alloc ?_ _))) (by simp; try omega) (by simp; omega) ?_
                  intro v11 w11 ho11 hb11 hg11 hat11
                  refine hK.out _ _ (S5 (g := w.heap.size) (p := p) (m := ⟨kind, inst, turn, name, att, ok⟩) (blk_below h104'.out hb11) (blk_below h10p'.out hb11)) (fun hHeld => ?_)
                  clear hK K
                  refine norm_ (a' := Act.put _ (some 131) v11) (by rfl) ?_
                  exact norm_ (by simp only [putAll, Act.put, List.setIfInBounds_toArray, List.set_cons_zero, List.set_cons_succ, i64_w, i32_w]) (hj (W10.heap.size + 1, v11, W10.heap.size) _ ⟨ho11, (one103 (⟨(kind == 2), inst, turn, name⟩ : S103) (by repeat (first | (with_reducible exact blk_new_at (by simp)) | (with_reducible refine blk_grown ?_ hg11 (by simp [Value.ownBlock])) | (with_reducible refine blk_alloc ?_ _) | (with_reducible refine blk_drew ?_)))), hb11⟩)
          case rest =>
            obtain ⟨ev2, hq0, hq4, hq6, hqL, hqE, hqK, hqB⟩ := hcut
            obtain ⟨m0, m1, m2, m3, m4, m5⟩ := msg_cells hq4.out
            obtain ⟨z0, z1, z2, z3, z4, z5⟩ := msg_cells hq6.out
            simp only [msg0] at m0 m1 m2 m3 m4 m5 z0 z1 z2 z3 z4 z5
            have y0 := blk_frozen hq6.out 0
            have y1 := blk_frozen hq6.out 1
            have y2 := blk_frozen hq6.out 2
            have y3 := blk_frozen hq6.out 3
            have y4 := blk_frozen hq6.out 4
            have y5 := blk_frozen hq6.out 5
            have hk2 : kind ≤ 2 := by have := of_decide_eq_false hdk; omega
            have hk1 : 1 ≤ kind := by have h9 := takes_kind hm'.out; rw [← hM'.out] at h9; simp only [] at h9; omega
            go_wp2
            refine bodyPost_ret (v := .tuple #[msgV (reply ⟨kind, inst, turn, name, att, ok⟩ okk), .bool true]) (by simp [results, Try.results18, go_sem, msgV, reply, z0, z1, z2, z3, z4, z5]) rfl ?_
            rw [hres.out]
            have h6 := six (m0 := msg0) (base := base) hq6.out (by omega) (reply ⟨kind, inst, turn, name, att, ok⟩ okk) _ rfl
            refine ⟨rfl, ⟨_, _, ⟨h'.out.pb, h6.2.same _ _ hq0.out (by simp [Still]), Kd.R_lower (base := w.heap.size) (R_fr hqL.out h6.2 (by intro q hq; simp [k100, Kd.iso, Kd.pair, Kd.bool, Kd.int, Kd.scalar] at hq; simp; omega)) hbase, R_fr hqE.out h6.2 (by intro q hq; simp [k103, Kd.iso, Kd.pair, Kd.bool, Kd.int, Kd.string, Kd.scalar] at hq; simp; omega)⟩⟩, ?_, hqB.out.trans h6.2.below⟩
            exact keep_set_new (keep_set_new (keep_set_new (keep_set_new (keep_set_new (keep_set_new hqK.out (by omega)) (by omega)) (by omega)) (by omega)) (by omega)) (by omega)
end Go.Proofs.Ytdglbiafpofeeaa.Led
