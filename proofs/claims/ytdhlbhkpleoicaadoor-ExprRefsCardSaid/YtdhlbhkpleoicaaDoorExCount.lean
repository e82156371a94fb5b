/- How many expressions there are in one. -/
import Derived.Test.YtdhlbhkpleoicaaDoorEx
import Derived.Deep.LoopGhost
namespace Go.Proofs.YtdhlbhkpleoicaaDoor.Exp
open Go.RowKit Go.Proofs.YtdhlbhkpleoicaaDoorW.PrintWords Go.Proofs.YtdhlbhkpleoicaaDoorW.PrintLast Go.Proofs.YtdhlbhkpleoicaaDoorW.PrintMore
set_option linter.unusedVariables false
set_option linter.unusedSimpArgs false

def cnt : Ex → Int → Int
  | .not x, left => if 1 ≤ left then 1 + cnt x (left - 1) else 1
  | .neg x, left => if 1 ≤ left then 1 + cnt x (left - 1) else 1
  | .bin _ l r, left =>
    let n := if 1 ≤ left then 1 + cnt l (left - 1) else 1
    if n ≤ left then n + cnt r (left - n) else n
  | _, _ => 1
def cstep (left n : Int) (x : Ex) : Int := if n ≤ left then n + cnt x (left - n) else n
theorem cnt_fold (x : Ex) (left : Int) : cnt x left = (ops x).foldl (cstep left) 1 := by
  cases x <;> simp [cnt, ops, cstep]
theorem cnt_bound : ∀ (x : Ex) (left : Int), 0 ≤ left → 1 ≤ cnt x left ∧ cnt x left ≤ left + 1
  | .none, left, h => by simp [cnt]; omega
  | .lit _, left, h => by simp [cnt]; omega
  | .ref _, left, h => by simp [cnt]; omega
  | .not x, left, h => by
    unfold cnt
    split
    · have := cnt_bound x (left - 1) (by omega); omega
    · omega
  | .neg x, left, h => by
    unfold cnt
    split
    · have := cnt_bound x (left - 1) (by omega); omega
    · omega
  | .bin op l r, left, h => by
    unfold cnt
    simp only
    by_cases h1 : 1 ≤ left
    · have h2 := cnt_bound l (left - 1) (by omega)
      rw [if_pos h1]
      split
      · rename_i h3
        have := cnt_bound r (left - (1 + cnt l (left - 1))) (by omega); omega
      · omega
    · rw [if_neg h1, if_neg (by omega)]; omega
theorem fold_bound (left : Int) (h : 0 ≤ left) : ∀ (l : List Ex) (n : Int), 1 ≤ n → n ≤ left + 1 → 1 ≤ l.foldl (cstep left) n ∧ l.foldl (cstep left) n ≤ left + 1
  | [], n, h1, h2 => ⟨h1, h2⟩
  | x :: l, n, h1, h2 => by
    rw [List.foldl_cons]
    refine fold_bound left h l _ ?_ ?_ <;> (unfold cstep; split)
    · have := cnt_bound x (left - n) (by omega); omega
    · omega
    · have := cnt_bound x (left - n) (by omega); omega
    · omega
/-- The depth of an expression: what calls of themselves are bounded by. -/
def dep : Ex → Nat
  | .not x => dep x + 1
  | .neg x => dep x + 1
  | .bin _ l r => max (dep l) (dep r) + 1
  | _ => 0
theorem dep_ops {x y : Ex} (h : y ∈ ops x) : dep y < dep x := by
  cases x <;> simp [ops] at h
  · subst h; simp [dep]
  · subst h; simp [dep]
  · rcases h with rfl | rfl <;> simp [dep] <;> omega
theorem ops_len (x : Ex) : (ops x).length ≤ 2 := by cases x <;> simp [ops]
theorem at_ex {w : World} {A : Option Addr} {n : Nat} {xs : List Ex} (h : Kd.C kEx w A n xs) (i : Int) (h0 : 0 ≤ i) (h1 : i < n) : ∃ ad, A = some ad ∧ w.cell? (ad.add i.toNat) = some (enc (rdOf Ex.none xs i)) :=
  ReadsOf.at_ (Kd.reads_of_C (enc := enc) (d := Ex.none) (h1 := enc_one) h) i h0 h1
theorem fold_take {l : List Ex} {k : Nat} (h : k < l.length) (left n : Int) : (l.take (k + 1)).foldl (cstep left) n = cstep left ((l.take k).foldl (cstep left) n) (rdOf Ex.none l (k : Int)) := by
  rw [List.take_succ_eq_append_getElem h, List.foldl_append]
  simp [rdOf, List.getD_eq_getElem?_getD, h]
set_option maxHeartbeats 4000000 in
set_option maxRecDepth 100000 in
theorem count_calls : ∀ (d : Nat) (x : Ex) (left : Int) (w : World), dep x < d → 0 ≤ left → left ≤ 1000 →
    Calls Tryd.prog 26 #[enc x, .int .i64 left] w fun e w' => e = .returned (.int .i64 (cnt x left)) ∧ Below w.heap.size w w' := by
  intro d
  induction d with
  | zero => intro x left w hd; omega
  | succ d ih =>
    intro x left w hd h0 h1
    have ih' := Aside0.mk ih
    have hd' := Aside0.mk hd
    clear ih hd
    go_enter Tryd.func26, Tryd.ntmps26
    go_wp2_with fail
    refine (operands_calls x _).mono ?_
    rintro e w1 ⟨v, rfl, hR, hb⟩
    obtain ⟨A, c, rfl, hc, hC⟩ := Kd.R_reads hR
    obtain ⟨l, hl⟩ : ∃ l, ops x = l := ⟨_, rfl⟩
    rw [hl] at hC hc ⊢
    have hl' := Aside0.mk hl
    have hC' := Aside0.mk hC
    have hc' := Aside0.mk hc
    have hb' := Aside0.mk hb
    have hll : l.length ≤ 2 := hl ▸ ops_len x
    clear hl hC hc hb hR
    go_wp2_with fail
    go_loopg [5, 11] (l.length + 1) (fun kq v5 v11 w' => ∃ k : Nat, v11 = .int .i64 (k : Int) ∧ v5 = .int .i64 ((l.take k).foldl (cstep left) 1) ∧ Aside0 (kq + k = l.length + 1) ∧ Aside0 (k ≤ l.length) ∧ Aside0 (Below w1.heap.size w1 w'))
    case atStart => exact ⟨0, rfl, rfl, ⟨by omega⟩, ⟨by omega⟩, ⟨Below.refl _ _⟩⟩
    case round =>
      obtain ⟨k, rfl, rfl, hk, hkl, hB⟩ := hrel
      by_cases hlt : k < l.length
      · have hdd : decide ((k : Int) < (l.length : Int)) = true := decide_eq_true (by omega)
        have hdd' : decide (k < l.length) = true := decide_eq_true hlt
        cases gk with
        | zero => exact absurd hk.out (by omega)
        | succ k1 =>
          have hlt' := Aside0.mk hlt
          have p1 : 0 ≤ (k : Int) := by omega
          have q1 : (k : Int) < (l.length : Int) := by omega
          obtain ⟨ad, e1, hx⟩ := at_ex (Kd.C_below hC'.out hB.out) (k : Int) p1 q1
          cases e1
          rw [show ((k : Int)).toNat = k from by simp] at hx
          have hfb := fold_bound left h0 (l.take k) 1 (by omega) (by omega)
          have hft := Aside0.mk (fold_take hlt left 1)
          have hmem : rdOf Ex.none l (k : Int) ∈ ops x := by
            rw [hl'.out]
            simp only [rdOf, Int.toNat_natCast, List.getD_eq_getElem?_getD, List.getElem?_eq_getElem hlt, Option.getD_some]
            exact List.getElem_mem hlt
          have hdy := Aside0.mk (dep_ops hmem)
          obtain ⟨y, hy⟩ : ∃ y, rdOf Ex.none l (k : Int) = y := ⟨_, rfl⟩
          obtain ⟨n, hn⟩ : ∃ n, (l.take k).foldl (cstep left) 1 = n := ⟨_, rfl⟩
          rw [hy] at hx hft hdy
          rw [hn] at hfb hft
          rw [hn]
          clear hn hy hmem
          by_cases hnl : n ≤ left
          · have hd1 : decide (n ≤ left) = true := decide_eq_true hnl
            have hcb := cnt_bound y (left - n) (by omega)
            go_wp2_with (go_at_call 26; (with_reducible refine (ih'.out y (left - n) _ (by have := hdy.out; have := hd'.out; omega) (by omega) (by omega)).mono ?_); rintro e w4 ⟨rfl, hb4⟩)
            go_roundg k1
            case measure => have := hk.out; omega
            case rel =>
              refine ⟨k + 1, by go_num, ?_, ⟨by have := hk.out; omega⟩, ⟨by have := hlt'.out; omega⟩, ⟨hB.out.trans (hb4.mono hB.out.size)⟩⟩
              rw [hft.out]
              unfold cstep
              rw [if_pos hnl]
          · have hd1 : decide (n ≤ left) = false := decide_eq_false hnl
            have hnl' := Aside0.mk hnl
            go_wp2
            go_roundg k1
            case measure => have := hk.out; omega
            case rel =>
              refine ⟨k + 1, by go_num, ?_, ⟨by have := hk.out; omega⟩, ⟨by have := hlt'.out; omega⟩, hB⟩
              rw [hft.out]
              unfold cstep
              rw [if_neg (by have := hnl'.out; omega)]
      · have hdd : decide ((k : Int) < (l.length : Int)) = false := decide_eq_false (by omega)
        have hdd' : decide (k < l.length) = false := decide_eq_false hlt
        have hkk : k = l.length := by have := hkl.out; omega
        subst hkk
        have hres : (l.take l.length).foldl (cstep left) 1 = cnt x left := by rw [List.take_length, cnt_fold, hl'.out]
        rw [hres]
        clear hres
        go_wp2
        go_ret
        exact ⟨rfl, below_step hb'.out hB.out⟩
end Go.Proofs.YtdhlbhkpleoicaaDoor.Exp
