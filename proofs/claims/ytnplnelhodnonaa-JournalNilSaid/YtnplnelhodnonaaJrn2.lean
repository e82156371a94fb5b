/- The journal: opened on a new disk. -/
import Derived.Test.YtnplnelhodnonaaDskFst
namespace Go.Proofs.Ytnplnelhodnonaa.Dsk
open Go.RowKit Go.Proofs.YtnplnelhodnonaaW.PrintWords Go.Proofs.YtnplnelhodnonaaW.PrintLast Go.Proofs.YtnplnelhodnonaaW.PrintMore Go.Proofs.Ytnplnelhodnonaa.PJournalNil
open Amap Frm
set_option linter.unusedVariables false
set_option linter.unusedSimpArgs false
def jc (p : Nat) (a b : Value) (s : Int) : Array Value := #[ep p, a, b, .int .i64 s, .bool false, .bool false]
set_option maxHeartbeats 4000000 in
set_option maxRecDepth 100000 in
theorem Open_empty (p m : Nat) (r lf : Int) (w : World) (hp : w.heap[p]? = some (.cells (dkr m r lf) 79 (0, 0))) (hm : MapIs ek ep domI w m []) :
    Calls Try.prog 29 #[ep p] w fun e w' => ∃ j, e = .returned (.tuple #[ep j, .slice none 0 0, .int .i64 0]) ∧ w.heap.size ≤ j ∧ w'.heap[j]? = some (.cells (jc p (.slice none 0 0) (.slice none 0 0) 0) 99 (0, 0)) ∧ Below w.heap.size w w' := by
  have hS := Aside0.mk (Segments p m _ _ _ _ [] w hp hm (by simp))
  clear hp hm
  unfold ep at hS ⊢
  go_enter Try.func29, Try.ntmps29
  go_upto_region 7 with (first
    | (go_at_call 16; (with_reducible refine hS.out.mono ?_); rintro e w1 ⟨v, rfl, _, hv, hb1⟩; obtain rfl := hv.2 rfl; have hb1' := Aside0.mk hb1; clear hb1 hv)
    | (go_at_call 52; (with_reducible refine (load_none _ _ ⟨_, rfl⟩).mono ?_); rintro e w2 ⟨rfl, rfl⟩)
    | fail)
  go_wp2_with (first
    | (go_at_call 53; (with_reducible refine (Clone_none _).mono ?_); rintro e w2 ⟨rfl, rfl⟩)
    | fail)
  go_loopg [10, 73] 1 (fun kq v10 v73 w' => v10 = .int .i64 0 ∧ v73 = .int .i64 0 ∧ Aside0 (Below w.heap.size w w'))
  case atStart => exact ⟨rfl, rfl, hb1'⟩
  case round =>
    obtain ⟨rfl, rfl, hb2⟩ := hrel
    clear hb1'
    go_wp2_with fail
    go_loopg [86] 1 (fun kq v86 w' => v86 = .int .i64 0 ∧ Aside0 (Below w.heap.size w w'))
    case atStart => exact ⟨rfl, hb2⟩
    case round =>
      obtain ⟨rfl, hb3⟩ := hrel
      clear hb2
      refine wp_world fun W3 hW3 => ?_
      rw [← hW3] at hb3
      clear hW3
      go_upto_region 27 with (first
        | (go_at_call 53; (with_reducible refine (Clone_none _).mono ?_); rintro e w3 ⟨rfl, hw3⟩; subst w3)
        | fail)
      have hj := Aside0.mk (blk_new W3 (.cells (jc p (.slice none 0 0) (.slice none 0 0) 0) 99))
      unfold jc ep at hj
      go_wp2_with fail
      go_loopg [16, 106] 1 (fun kq v16 v106 w' => v16 = .slice none 0 0 ∧ v106 = .int .i64 0 ∧ w' = (W3.alloc (.cells #[.pointer (some ⟨p, 0, none⟩), .slice none 0 0, .slice none 0 0, .int .i64 0, .bool false, .bool false] 99)))
      case atStart => exact ⟨rfl, rfl, rfl⟩
      case round =>
        obtain ⟨rfl, rfl, rfl⟩ := hrel
        go_wp2_with fail
        refine bodyPost_ret (v := .tuple #[.pointer (some ⟨W3.heap.size, 0, none⟩), .slice none 0 0, .int .i64 0]) (by simp [results, Try.results29, go_sem]) rfl ?_
        exact ⟨W3.heap.size, rfl, hb3.out.size, hj.out, below_alloc hb3.out _⟩
end Go.Proofs.Ytnplnelhodnonaa.Dsk
