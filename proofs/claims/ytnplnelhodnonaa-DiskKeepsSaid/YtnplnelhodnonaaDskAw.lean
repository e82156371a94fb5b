/- The disk: awake. -/
import Derived.Test.YtnplnelhodnonaaDskAwake
namespace Go.Proofs.Ytnplnelhodnonaa.Dsk
open Go.RowKit Go.Proofs.YtnplnelhodnonaaW.PrintWords Go.Proofs.YtnplnelhodnonaaW.PrintLast Go.Proofs.YtnplnelhodnonaaW.PrintMore Go.Proofs.Ytnplnelhodnonaa.PDiskNil
open Amap Frm
set_option linter.unusedVariables false
set_option linter.unusedSimpArgs false
theorem blk_new_mark_ (w : World) (C : Array Value) (t : Nat) (z : Nat × Nat) : (w.alloc (.cells C t z)).heap[w.heap.size]? = some (.cells C t z) := blk_new _ _
set_option maxHeartbeats 4000000 in
set_option maxRecDepth 100000 in
theorem awake_calls (w : World) : Calls Try.prog 10 #[] w fun e w' => e = .returned (.bool true) ∧ Below w.heap.size w w' := by
  have kc := fun (w : World) (C : Array Value) (n c : Nat) => Lib.run_convert_bytes_const (P := Try.prog) w 30 5 C n c Try.underlying30 Try.underlying5
  go_enter Try.func10, Try.ntmps10
  go_wp2_with fail
  refine (New_calls _).mono ?_
  rintro e w1 ⟨rfl, hw1⟩
  have hp1 : w1.heap[w.heap.size + 1]? = some (.cells (dk w.heap.size 0) 79 (0, 0)) := by
    rw [hw1]
    have h1 := blk_new (w.alloc (.map #[] 0)) (.cells (dk w.heap.size 0) 79)
    have h2 : (w.alloc (.map #[] 0)).heap.size = w.heap.size + 1 := by simp
    rw [h2] at h1
    exact h1
  have hm1 : MapIs ek ep domI w1 w.heap.size ([] : List (Int × Nat)) := by
    rw [hw1]
    exact (MapIs.made w).move (Below.heap_alloc _ _ _ (by simp))
  have hs1 : w1.heap.size = w.heap.size + 2 := by rw [hw1]; simp
  have hB1 : Below w.heap.size w w1 := by
    rw [hw1]
    exact below_alloc (below_alloc (Below.refl _ _) _) _
  have hA := Append_new (w.heap.size + 1) w.heap.size w1.heap.size (2, 3) 2 w.heap.size (w1.alloc (.cells #[.int .u8 97, .int .u8 98] 5 (2, 3))) (blk_alloc hp1 _) (hm1.move (Below.heap_alloc _ _ _ hm1.lt)) (blk_new_mark_ _ _ _ _) (by omega) (by omega) (by omega) (Nat.le_refl _) (by omega)
  have hB1' := Aside0.mk hB1
  have hs1' := Aside0.mk hs1
  unfold ep at hA ⊢
  have hA' := Aside0.mk hA
  clear hA hw1 hp1 hm1 hB1 hs1
  go_wp2_with (first
    | (go_at_call 23; (refine hA'.out.mono ?_); rintro e w3 ⟨rfl, hb3, g, A, c, hp3, hm3, hg3⟩; have hU := Aside0.mk (Used_1 (w.heap.size + 1) w.heap.size g 2 1 100 (-1) 0 false false A c w3 (by omega) hp3 hm3 hg3); have hb3' := Aside0.mk hb3; clear hb3 hp3 hm3 hg3)
    | (go_at_call 27; (refine hU.out.mono ?_); rintro e w4 ⟨rfl, hb4⟩; have hb4' := Aside0.mk hb4; clear hb4)
    | fail)
  go_ret
  refine ⟨rfl, ?_⟩
  have h2 : Below w.heap.size w (w1.alloc (.cells #[.int .u8 97, .int .u8 98] 5 (2, 3))) := hB1'.out.alloc (by have := hs1'.out; omega) _
  have h3 := h2.trans hb3'.out
  exact h3.trans (hb4'.out.mono h3.size)
end Go.Proofs.Ytnplnelhodnonaa.Dsk
