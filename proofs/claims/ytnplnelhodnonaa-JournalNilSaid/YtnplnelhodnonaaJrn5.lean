/- The journal: awake; what a nil one does. -/
import Derived.Test.YtnplnelhodnonaaJrn4
namespace Go.Proofs.Ytnplnelhodnonaa.Dsk
open Go.RowKit Go.Proofs.YtnplnelhodnonaaW.PrintWords Go.Proofs.YtnplnelhodnonaaW.PrintLast Go.Proofs.YtnplnelhodnonaaW.PrintMore Go.Proofs.Ytnplnelhodnonaa.PJournalNil
open Amap Frm
set_option linter.unusedVariables false
set_option linter.unusedSimpArgs false
set_option maxHeartbeats 2000000 in
set_option maxRecDepth 100000 in
theorem Records_one (jb p g c : Nat) (a : Value) (s : Int) (w : World) (hj : w.heap[jb]? = some (.cells (jc p a (.slice (some ⟨g, 0, none⟩) 1 c) s) 99 (0, 0))) (hg : w.cell? ⟨g, 0, none⟩ = some (.int .i64 1)) : Calls Try.prog 32 #[ep jb] w fun e w' => e = .returned (.int .i64 1) ∧ w' = w := by
  obtain ⟨c0, c1, c2, c3, c4, c5⟩ := jc_cells hj
  clear hj c0 c1 c3 c4 c5
  have hw : IntKind.i64.wrap ((0 : Int) + 1) = 1 := by decide
  unfold ep
  go_enter Try.func32, Try.ntmps32
  go_wp2_with fail
  go_loopg [3, 13] 2 (fun kq v3 v13 w' => w' = w ∧ ((kq = 2 ∧ v3 = .int .i64 0 ∧ v13 = .int .i64 0) ∨ (kq = 1 ∧ v3 = .int .i64 1 ∧ v13 = .int .i64 1)))
  case atStart => exact ⟨rfl, .inl ⟨rfl, rfl, rfl⟩⟩
  case round =>
    obtain ⟨rfl, hrel⟩ := hrel
    rcases hrel with ⟨hk, rfl, rfl⟩ | ⟨hk, rfl, rfl⟩
    · cases gk with
      | zero => cases hk
      | succ k1 =>
        have hk' := Aside0.mk hk
        clear hk
        go_wp2
        go_roundg k1
        case measure => exact Nat.lt_succ_self _
        case rel => exact ⟨rfl, .inr ⟨by have := hk'.out; omega, rfl, rfl⟩⟩
    · clear hk
      go_wp2
      go_ret
      exact ⟨rfl, rfl⟩
theorem New_r (w : World) : Calls Try.prog 12 #[.int .i64 1000] w fun e w' => e = .returned (ep (w.heap.size + 1)) ∧ w' = (w.alloc (.map #[] 0)).alloc (.cells #[.map (some w.heap.size), .int .i64 1000, .int .i64 0, .bool false, .bool false] 79) := by
  have hmm := @run_makeMap Try.prog
  go_enter Try.func12, Try.ntmps12
  go_wp2
  go_ret
  exact ⟨rfl, rfl⟩
set_option maxHeartbeats 4000000 in
set_option maxRecDepth 100000 in
theorem jawake_calls (w : World) : Calls Try.prog 28 #[] w fun e w' => e = .returned (.bool true) ∧ Below w.heap.size w w' := by
  have kc := fun (w : World) (C : Array Value) (n c : Nat) => Lib.run_convert_bytes_const (P := Try.prog) w 30 5 C n c Try.underlying30 Try.underlying5
  go_enter Try.func28, Try.ntmps28
  go_wp2_with fail
  refine (New_r _).mono ?_
  rintro e w1 ⟨rfl, hw1⟩
  have hp1 : w1.heap[w.heap.size + 1]? = some (.cells (dkr w.heap.size 1000 0) 79 (0, 0)) := by
    rw [hw1]
    have h1 := blk_new (w.alloc (.map #[] 0)) (.cells (dkr w.heap.size 1000 0) 79)
    have h2 : (w.alloc (.map #[] 0)).heap.size = w.heap.size + 1 := by simp
    rw [h2] at h1
    exact h1
  have hm1 : MapIs ek ep domI w1 w.heap.size ([] : List (Int × Nat)) := by
    rw [hw1]
    exact (MapIs.made w).move (Below.heap_alloc _ _ _ (by simp))
  have hs1 : w1.heap.size = w.heap.size + 2 := by rw [hw1]; simp
  have hB1 : Below w.heap.size w w1 := by
    rw [hw1]
    exact below_alloc (below_alloc (Below.refl _ _) _) _
  have hO := Open_empty (w.heap.size + 1) w.heap.size 1000 0 w1 hp1 hm1
  have hB1' := Aside0.mk hB1
  have hs1' := Aside0.mk hs1
  have hp1' := Aside0.mk hp1
  have hm1' := Aside0.mk hm1
  unfold ep at hO ⊢
  have hO' := Aside0.mk hO
  clear hO hw1 hp1 hm1 hB1 hs1
  go_wp2_with (first
    | (go_at_call 29; (with_reducible refine hO'.out.mono ?_); rintro e w2 ⟨j, rfl, hj0, hj, hb2⟩
       have hb2' := Aside0.mk hb2
       have hj' := Aside0.mk hj
       have hj0' := Aside0.mk hj0
       have hsz : Aside0 (w.heap.size + 2 ≤ w2.heap.size) := ⟨by have := hb2.size; have := hs1'.out; omega⟩
       clear hb2 hj hj0)
    | (go_at_call 30
       (have hA := jAppend_first j (w.heap.size + 1) w.heap.size w2.heap.size 1 (1, 2) 0 w.heap.size (w2.alloc (.cells #[.int .u8 97] 5 (1, 2))) (blk_alloc hj'.out _) (blk_alloc (blk_below hp1'.out hb2'.out) _) ((hm1'.out.move (hb2'.out.block _ hm1'.out.lt)).move (Below.heap_alloc _ _ _ (by have := hsz.out; omega))) (blk_new_mark_ _ _ _ _) (Nat.le_refl _) (by omega) (Nat.le_refl _) (by have := hj0'.out; have := hs1'.out; omega) (by omega))
       (refine hA.mono ?_)
       rintro e w3 ⟨rfl, ⟨a, s, g, c, hj3, hg3⟩, hb3⟩
       have hR := Aside0.mk (Records_one j (w.heap.size + 1) g c a s w3 hj3 hg3)
       have hb3' := Aside0.mk hb3
       clear hb3 hj3 hg3)
    | (go_at_call 32; (refine hR.out.mono ?_); rintro e w4 ⟨rfl, hw4⟩; subst w4)
    | fail)
  go_ret
  refine ⟨rfl, ?_⟩
  have h2 : Below w.heap.size w w2 := hB1'.out.trans (hb2'.out.mono (by have := hs1'.out; omega))
  exact (h2.alloc (by have := hsz.out; omega) _).trans hb3'.out
end Go.Proofs.Ytnplnelhodnonaa.Dsk
