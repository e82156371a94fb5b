/- LedgerDead, walked. -/
import Derived.Test.YtdglbiafpofeeaaLedFew
namespace Go.Proofs.Ytdglbiafpofeeaa.Led
open Go.RowKit Go.Proofs.YtdglbiafpofeeaaW.PrintWords Go.Proofs.YtdglbiafpofeeaaW.PrintLast Go.Proofs.YtdglbiafpofeeaaW.PrintMore Go.Proofs.Ytdglbiafpofeeaa.PLedgerPlays
open Amap
set_option linter.unusedVariables false
set_option linter.unusedSimpArgs false

set_option maxHeartbeats 4000000 in
set_option maxRecDepth 100000 in
theorem dead_calls (inst turn : Int) (name : ByteArray) (A : Option Addr) (c : Nat) (l : List Int) (acc : Bool) (w : World) (hi : 0 ≤ inst ∧ inst < 65536) (ht : 0 ≤ turn ∧ turn < 65536) (hC : Kd.C (Kd.int .u8) w A l.length l) (hc : l.length ≤ c) (hl : ∀ x ∈ l, 0 ≤ x ∧ x < 256) :
    Calls Try.prog 6 #[.int .u16 inst, .int .u16 turn, .string name, .slice A l.length c, .bool acc] w fun e w' => e = .returned (.bool true) ∧ Below w.heap.size w w' := by
  have hC' := Aside0.mk hC
  have hl' := Aside0.mk hl
  clear hC hl
  by_cases hn : name.size ≤ 200
  · by_cases hll : l.length ≤ 50
    · have d1 : decide (200 < (name.size : Int)) = false := decide_eq_false (by omega)
      have d2 : decide (50 < (l.length : Int)) = false := decide_eq_false (by omega)
      have d1' : decide (200 < name.size) = false := decide_eq_false (by omega)
      have d2' : decide (50 < l.length) = false := decide_eq_false (by omega)
      have htak : takes ⟨2, inst, turn, name, 0, false⟩ = true := by simp [takes, formed, num]; omega
      have hll' := Aside0.mk hll
      clear hn hll
      go_enter Try.func6, Try.ntmps6
      go_upto_region 3 with (first | (go_at_call 13; (with_reducible refine (awake_calls _).mono ?_); rintro e w1 ⟨rfl, hb1⟩) | fail)
      refine wp_world (fun W hW => ?_)
      have hbel : Below w.heap.size w W := by rw [hW]; exact hb1
      have hC2 : Aside0 (Kd.C (Kd.int .u8) W A l.length l) := ⟨Kd.C_below hC'.out hbel⟩
      clear hW hb1
      obtain ⟨x, hx, htk⟩ := dead_first (m := ⟨2, inst, turn, name, 0, false⟩) htak rfl (by simp) acc
      have hx' := Aside0.mk hx
      have htk' := Aside0.mk htk
      clear hx htk
      have hnew := Aside0.mk (New_is w.heap.size W hbel.size)
      have hsz := hbel.size
      go_upto_region 8 with (first
        | (go_at_call 15; (with_reducible refine (New_calls _).mono ?_); rintro e w1 ⟨rfl, rfl⟩)
        | (go_at_call 16; (with_reducible refine (Take_at st0 2 inst turn name 0 false acc _ _ _ _ _ _ _ _ htk'.out w.heap.size _ _ (by simp; omega) (hnew.out.below (below_alloc (Below.refl _ _) _)) (by decide) (by decide)).mono ?_); rintro e w2 ⟨rfl, hS2, hf2⟩)
        | (go_at_call 17; (with_reducible refine (Effects_calls _ w.heap.size _ _ (by exact hS2.below (below_alloc (Below.refl _ _) _)) (by simp)).mono ?_); rintro e w3 ⟨v3, rfl, hR3, hb3⟩; obtain ⟨A3, c3, rfl⟩ := Kd.R_slice hR3)
        | fail)
      refine wp_world (fun W2 hW2 => ?_)
      have B12 : W2.heap[W.heap.size + 1]? = some (.cells (msgA ⟨2, inst, turn, name, 0, false⟩) 28 (0, 0)) := by
        have h1 := blk_new (W.alloc (.cells #[.map none, .slice none 0 0] 44)) (.cells (msgA ⟨2, inst, turn, name, 0, false⟩) 28)
        have h2 : (W.alloc (.cells #[.map none, .slice none 0 0] 44)).heap.size = W.heap.size + 1 := by simp
        rw [h2] at h1
        rw [hW2]
        exact blk_below (blk_alloc (hf2.same _ _ h1 (by simp [Still])) _) hb3
      have hS3 : IsLed w.heap.size W2 W.heap.size ⟨[((inst, turn), x)], []⟩ := by rw [hW2]; exact (hS2.below (below_alloc (Below.refl _ _) _)).below hb3
      have hB2 : Below w.heap.size w W2 := by
        rw [hW2]
        refine Below.trans (b := (W.alloc (.cells #[.map none, .slice none 0 0] 44)).alloc (.cells (msgA ⟨2, inst, turn, name, 0, false⟩) 28)) ?_ (hf2.below.trans ?_)
        · exact below_alloc (below_alloc hbel _) _
        · exact ((Below.refl _ _).alloc (by have := hf2.below.size; simp at this ⊢; omega) _).trans (hb3.mono (by have := hf2.below.size; simp at this ⊢; omega))
      clear hW2 hS2 hf2 hR3 hb3 htk' hnew
      have z0 : W2.cell? ⟨W.heap.size + 1, 0, none⟩ = some (.int .i64 2) := (blk_cell B12 0).trans rfl
      have zf0 := blk_frozen B12 0
      have hS3' := Aside0.mk hS3
      have hB2' := Aside0.mk hB2
      clear hS3 hB2
      go_wp2
      go_loopg [61] (l.length + 1) (fun kq v61 w' => ∃ (i : Nat) (att : Int), v61 = .int .i64 (i : Int) ∧ Aside0 (kq + i = l.length + 1) ∧ Aside0 (i ≤ l.length) ∧ Aside0 (0 ≤ att ∧ att < 256) ∧ Aside0 (w'.heap[W.heap.size + 1]? = some (.cells (msgA ⟨1, inst, turn, name, att, false⟩) 28 (0, 0))) ∧ Aside0 (IsLed w.heap.size w' W.heap.size ⟨[((inst, turn), x)], []⟩) ∧ Aside0 (Below w.heap.size w w'))
      case atStart =>
        have hset : Fr [28] false w.heap.size W2 (W2.setCell ⟨W.heap.size + 1, 0, none⟩ (.int .i64 1)) := (Fr.refl _ _ _ _).set B12 (by simp) (by omega) _ _
        exact ⟨0, 0, rfl, ⟨by omega⟩, ⟨by omega⟩, ⟨by omega⟩, ⟨blk_put B12 0 _ rfl⟩, ⟨hS3'.out.fr hset (by simp) (by simp) (by simp)⟩, ⟨hB2'.out.trans hset.below⟩⟩
      case round =>
        obtain ⟨i, att, rfl, hk, hi, hatt, hb, hS, hB⟩ := hrel
        have hC3 := Aside0.mk (Kd.C_below hC'.out hB.out)
        by_cases hlt : i < l.length
        · have hd : decide ((i : Int) < (l.length : Int)) = true := decide_eq_true (by omega)
          have hd' : decide (i < l.length) = true := decide_eq_true hlt
          cases gk with
          | zero => exact absurd hk.out (by omega)
          | succ k1 =>
            have hlt' := Aside0.mk hlt
            have hi50 : (i : Int) ≤ 50 := by have := hll'.out; omega
            have p1 : 0 ≤ (i : Int) := by omega
            have q1 : (i : Int) < (l.length : Int) := by omega
            have hxb : 0 ≤ rd l i ∧ rd l i < 256 := by
              have h1 := hl'.out (l.getD i 0) (by rw [List.getD_eq_getElem?_getD, List.getElem?_eq_getElem hlt]; exact List.getElem_mem hlt)
              simpa [rd] using h1
            obtain ⟨ad, e1, hx1⟩ := Kd.at_int hC3.out (i : Int) p1 q1
            cases e1
            rw [show ((i : Int)).toNat = i from by simp] at hx1
            have hbl := hb.out
            have z4 : wr.cell? ⟨W.heap.size + 1, 4, none⟩ = some (.int .i64 att) := (blk_cell hbl 4).trans rfl
            have y4 := blk_frozen hbl 4
            have zz0 : wr.cell? ⟨W.heap.size + 1, 0, none⟩ = some (.int .i64 1) := (blk_cell hbl 0).trans rfl
            have zz1 : wr.cell? ⟨W.heap.size + 1, 1, none⟩ = some (.int .i64 inst) := (blk_cell hbl 1).trans rfl
            have zz2 : wr.cell? ⟨W.heap.size + 1, 2, none⟩ = some (.int .i64 turn) := (blk_cell hbl 2).trans rfl
            have zz3 : wr.cell? ⟨W.heap.size + 1, 3, none⟩ = some (.string name) := (blk_cell hbl 3).trans rfl
            have zz5 : wr.cell? ⟨W.heap.size + 1, 5, none⟩ = some (.bool false) := (blk_cell hbl 5).trans rfl
            have hbr : w.heap.size ≤ wr.heap.size := hB.out.size
            clear hbl
            obtain ⟨v, hv⟩ : ∃ v, rd l i = v := ⟨_, rfl⟩
            rw [hv] at hx1 hxb
            have htv : takes ⟨1, inst, turn, name, v, false⟩ = true := by
              simp [takes, formed, num] at htak ⊢
              omega
            have htk2 := Aside0.mk (dead_then (m := ⟨1, inst, turn, name, v, false⟩) htv rfl hx'.out true)
            have hset := fun u => (Fr.refl [28] false w.heap.size wr).set hb.out (by simp) (by omega : w.heap.size ≤ W.heap.size + 1) 4 u
            have hput := fun u => blk_put hb.out 4 u rfl
            have hset' := Aside0.mk hset
            have hput' := Aside0.mk hput
            clear hv htv hset hput
            go_wp2_with (first
              | (go_at_call 16; (with_reducible refine (Take_at _ 1 inst turn name v false true _ _ _ _ _ _ _ _ htk2.out w.heap.size _ _ (by simp; omega) (hS.out.fr (hset'.out _) (by simp) (by simp) (by simp)) (by simp) (by simp)).mono ?_); rintro e w4 ⟨rfl, hS4, hf4⟩)
              | fail)
            go_roundg k1
            case measure => have := hk.out; omega
            case rel =>
              have hB4 : Below w.heap.size w w4 := hB.out.trans ((hset'.out (.int .i64 v)).below.trans hf4.below)
              refine ⟨i + 1, v, by go_num, ⟨?_⟩, ⟨by have := hlt'.out; omega⟩, ⟨hxb⟩, ⟨blk_alloc (hf4.same _ _ (hput'.out (.int .i64 v)) (by simp [Still])) _⟩, ⟨hS4.below (below_alloc (Below.refl _ _) _)⟩, ⟨below_alloc hB4 _⟩⟩
              have := hk.out; omega
        · have hd : decide ((i : Int) < (l.length : Int)) = false := decide_eq_false (by omega)
          have hd' : decide (i < l.length) = false := decide_eq_false hlt
          go_wp2_with (first
            | (go_at_call 17; (with_reducible refine (Effects_calls _ w.heap.size _ _ (by exact hS.out) (by simp)).mono ?_); rintro e w5 ⟨v5, rfl, hR5, hb5⟩; obtain ⟨A5, c5, rfl⟩ := Kd.R_slice hR5)
            | (go_at_call 19; (with_reducible refine (Len_calls _ w.heap.size _ _ (by exact hS.out.below hb5)).mono ?_); rintro e w6 ⟨rfl, rfl⟩)
            | fail)
          go_ret
          exact ⟨rfl, hB.out.trans (hb5.mono hB.out.size)⟩
    · have d1 : decide (200 < (name.size : Int)) = false := decide_eq_false (by omega)
      have d2 : decide (50 < (l.length : Int)) = true := decide_eq_true (by omega)
      have d1' : decide (200 < name.size) = false := decide_eq_false (by omega)
      have d2' : decide (50 < l.length) = true := decide_eq_true (by omega)
      clear hn hll
      go_enter Try.func6, Try.ntmps6
      go_wp2_with fail
      refine (awake_calls _).mono ?_
      rintro e w1 ⟨rfl, hb1⟩
      go_wp2_with fail
      refine (awake_calls _).mono ?_
      rintro e w2 ⟨rfl, hb2⟩
      go_wp2
      go_ret
      exact ⟨rfl, below_step hb1 hb2⟩
  · have d1 : decide (200 < (name.size : Int)) = true := decide_eq_true (by omega)
    have d1' : decide (200 < name.size) = true := decide_eq_true (by omega)
    clear hn
    go_enter Try.func6, Try.ntmps6
    go_wp2_with fail
    refine (awake_calls _).mono ?_
    rintro e w1 ⟨rfl, hb1⟩
    go_wp2_with fail
    refine (awake_calls _).mono ?_
    rintro e w2 ⟨rfl, hb2⟩
    go_wp2
    go_ret
    exact ⟨rfl, below_step hb1 hb2⟩
end Go.Proofs.Ytdglbiafpofeeaa.Led
